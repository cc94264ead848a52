/- The law TermOnes: its walk. Every term. -/
import Derived.Test.YteeajhnbifpklaaGreatDoorRfEff
import Derived.Test.YteeajhnbifpklaaGreatDoorTgShape
import Derived.Test.YteeajhnbifpklaaGreatDoorTvLaidZ
import Derived.Test.YteeajhnbifpklaaGreatDoorTmOpen
import Derived.Test.YteeajhnbifpklaaGreatDoorTmMust
namespace Go.Proofs.YteeajhnbifpklaaGreatDoor
open Go Go.RowKit
set_option linter.unusedVariables false
set_option linter.unusedSimpArgs false
set_option maxRecDepth 100000
theorem one_facts {k : Int} {x t l : ByteArray} (h : shortV x t l = true) : Sized (termOf k x t l) ∧ (text0 (termOf k x t l)).size ≤ 6000 ∧ Small (termOf k x t l) := by
  unfold shortV at h
  simp only [Bool.and_eq_true, decide_eq_true_eq] at h
  unfold termOf Small
  split
  · exact ⟨show x.size ≤ 1000000 by omega, show x.size ≤ 6000 by omega, show x.size ≤ 1000000 by omega, show (0 : Nat) ≤ 1000000 by omega, show (0 : Nat) ≤ 1000000 by omega⟩
  · split
    · exact ⟨show x.size ≤ 1000000 by omega, show x.size ≤ 6000 by omega, show x.size ≤ 1000000 by omega, show (0 : Nat) ≤ 1000000 by omega, show (0 : Nat) ≤ 1000000 by omega⟩
    · split
      · exact ⟨⟨by omega, by omega, by omega⟩, show x.size ≤ 6000 by omega, show x.size ≤ 1000000 by omega, show t.size ≤ 1000000 by omega, show l.size ≤ 1000000 by omega⟩
      · exact ⟨trivial, show (0 : Nat) ≤ 6000 by omega, show (0 : Nat) ≤ 1000000 by omega, show (0 : Nat) ≤ 1000000 by omega, show (0 : Nat) ≤ 1000000 by omega⟩
theorem must_kind {X : Tm} (h : kindV X = 1) (w : World) : Calls Tryz.prog 19 #[tmV X] w fun e w' => e = .returned (.agg #[.string (text0 X)]) ∧ Below w.heap.size w w' := by
  cases X with
  | iri s => exact must_iri s w
  | blank s => exact absurd (show (0 : Int) = 1 from h) (by decide)
  | lit s t l => exact absurd (show (2 : Int) = 1 from h) (by decide)
  | odd n => exact absurd (show (3 : Int) = 1 from h) (by decide)
  | none => exact absurd (show (3 : Int) = 1 from h) (by decide)
theorem nP_err (X : Tm) (h : aiE X ≠ 0) : aiN X = 0 := by
  cases X with
  | lit s t l =>
    change (if isInt t then (if eP s.data.toList = 1 then 3 else eP s.data.toList) else 10) ≠ (0 : Int) at h
    show (if isInt t then nP s.data.toList else 0) = 0
    cases hi : isInt t with
    | false => rfl
    | true =>
      rw [hi] at h
      simp only [if_true] at h ⊢
      unfold eP at h
      unfold nP
      cases h1 : isNum s.data.toList with
      | false => rfl
      | true =>
        rw [h1] at h
        cases h2 : fits (numT s.data.toList) with
        | false => rfl
        | true => rw [h2] at h; simp at h
  | _ => rfl
theorem eff_vals (X : Tm) : 0 ≤ effV X ∧ effV X ≤ 2 := by
  have ht : ∀ b, 0 ≤ truthV b ∧ truthV b ≤ 2 := fun b => by cases b <;> exact ⟨by decide, by decide⟩
  cases X with
  | lit s t l =>
    unfold effV
    repeat' split
    all_goals first | omega | exact ht _
  | _ => exact ⟨by show (0 : Int) ≤ 2; omega, by show (2 : Int) ≤ 2; omega⟩
theorem ab_vals (X : Tm) : True := trivial
def Held (w : World) (g : Nat) (v0 v1 v2 v3 : Value) (b : Nat) (u0 u1 : Value) (N : Int) (w0 : World) : Prop :=
  w.cell? ⟨g, 0, none⟩ = some v0 ∧ w.cell? ⟨g, 1, none⟩ = some v1 ∧ w.cell? ⟨g, 2, none⟩ = some v2 ∧ w.cell? ⟨g, 3, none⟩ = some v3 ∧ w.cell? ⟨b, 0, none⟩ = some u0 ∧ w.cell? ⟨b, 1, none⟩ = some u1 ∧ BigV w (.agg #[u0, u1]) N ∧ Below w0.heap.size w0 w
theorem held_below {w w' w0 : World} {g b : Nat} {v0 v1 v2 v3 u0 u1 : Value} {N : Int} (h : Held w g v0 v1 v2 v3 b u0 u1 N w0) (hb : Below w.heap.size w w') : Held w' g v0 v1 v2 v3 b u0 u1 N w0 := by
  obtain ⟨h0, h1, h2, h3, h4, h5, h6, z⟩ := h
  exact ⟨cell_below h0 hb, cell_below h1 hb, cell_below h2 hb, cell_below h3 hb, cell_below h4 hb, cell_below h5 hb, bigV_below h6 hb, z.trans (hb.mono z.size)⟩
theorem held_drew {w w0 : World} {g b : Nat} {v0 v1 v2 v3 u0 u1 : Value} {N : Int} (h : Held w g v0 v1 v2 v3 b u0 u1 N w0) : Held w.drew g v0 v1 v2 v3 b u0 u1 N w0 := by
  have hb : Below w.heap.size w w.drew := (Below.refl _ _).drew
  exact held_below h hb
theorem okept4 {w w1 w2 : World} {a0 a1 a2 a3 : Addr} {v0 v1 v2 v3 : Value} (h : w1.cell? a0 = some v0 ∧ w1.cell? a1 = some v1 ∧ w1.cell? a2 = some v2 ∧ w1.cell? a3 = some v3 ∧ Below w.heap.size w w1) (hb : Below w1.heap.size w1 w2) :
    w2.cell? a0 = some v0 ∧ w2.cell? a1 = some v1 ∧ w2.cell? a2 = some v2 ∧ w2.cell? a3 = some v3 ∧ Below w.heap.size w w2 :=
  ⟨cell_below h.1 hb, cell_below h.2.1 hb, cell_below h.2.2.1 hb, cell_below h.2.2.2.1 hb, h.2.2.2.2.trans (hb.mono h.2.2.2.2.size)⟩
set_option maxHeartbeats 25600000 in
theorem ones_walk (k : Int) (x t l : ByteArray) (w : World) (hv : ErrV w) (hm : MaxV w) :
    Calls Tryz.prog 3 #[.agg #[.int .i64 k, .string x, .string t, .string l]] w fun e w' => e = .returned (.bool true) ∧ Below w.heap.size w w' := by
  have AW := Lib.hid (fun w hv => awake3_any w hv)
  have HEV := Lib.hid (fun w' (hb : Below w.heap.size w w') => hv.below hb)
  have HMV := Lib.hid (fun w' (hb : Below w.heap.size w w') => hm.below hb)
  clear hv hm
  have SH := Lib.hid (short_any k x t l)
  obtain ⟨b1, hb1⟩ : ∃ b, b = shortV x t l := ⟨_, rfl⟩
  rw [← hb1] at SH
  have HB1 := Lib.hid hb1
  clear hb1
  have HX0 : Hid ((w.alloc (.cells #[.int .i64 k, .string x, .string t, .string l] 23)).cell? ⟨w.heap.size, 0, none⟩ = some (.int .i64 k) ∧ (w.alloc (.cells #[.int .i64 k, .string x, .string t, .string l] 23)).cell? ⟨w.heap.size, 1, none⟩ = some (.string x) ∧ (w.alloc (.cells #[.int .i64 k, .string x, .string t, .string l] 23)).cell? ⟨w.heap.size, 2, none⟩ = some (.string t) ∧ (w.alloc (.cells #[.int .i64 k, .string x, .string t, .string l] 23)).cell? ⟨w.heap.size, 3, none⟩ = some (.string l) ∧ Below w.heap.size w (w.alloc (.cells #[.int .i64 k, .string x, .string t, .string l] 23))) := Lib.hid ⟨by simp [go_sem], by simp [go_sem], by simp [go_sem], by simp [go_sem], by go_grown⟩
  cases b1 with
  | false =>
    go_enter Tryz.func3, Tryz.ntmps3
    go_wp2_with fail
    refine (AW.out _ (HEV.out _ HX0.out.2.2.2.2)).mono ?_
    rintro e w1 ⟨rfl, hbn⟩
    have HX := Lib.hid (okept4 HX0.out hbn)
    clear hbn HX0
    obtain ⟨c0, c1, c2, c3, cz⟩ := HX.out
    go_wp2_with fail
    refine (SH.out _).mono ?_
    rintro e wn ⟨rfl, hbn⟩
    replace HX := Lib.hid (okept4 HX.out hbn)
    clear hbn cz c0 c1 c2 c3
    obtain ⟨c0, c1, c2, c3, cz⟩ := HX.out
    go_wp2_with fail
    refine (AW.out _ (HEV.out _ cz)).mono ?_
    rintro e wn ⟨rfl, hbn⟩
    go_wp2_with fail
    go_ret
    exact ⟨rfl, cz.trans (hbn.mono cz.size)⟩
  | true =>
    go_enter Tryz.func3, Tryz.ntmps3
    go_wp2_with fail
    refine (AW.out _ (HEV.out _ HX0.out.2.2.2.2)).mono ?_
    rintro e w1 ⟨rfl, hbn⟩
    have HX := Lib.hid (okept4 HX0.out hbn)
    clear hbn HX0
    obtain ⟨c0, c1, c2, c3, cz⟩ := HX.out
    go_wp2_with fail
    refine (SH.out _).mono ?_
    rintro e wn ⟨rfl, hbn⟩
    replace HX := Lib.hid (okept4 HX.out hbn)
    clear hbn cz c0 c1 c2 c3
    obtain ⟨X, hX⟩ : ∃ X, X = termOf k x t l := ⟨_, rfl⟩
    have MX : Made X := by rw [hX]; exact made_of _ _ _ _
    have SX := one_facts (k := k) HB1.out.symm
    rw [← hX] at SX
    have PR : Hid (∀ w, Calls Tryz.prog 6 #[.agg #[.int .i64 k, .string x, .string t, .string l]] w fun e w' => e = .returned (rV X) ∧ Below w.heap.size w w') := Lib.hid (fun w => by have := plainr_any k x t l w; rw [plain_rV, ← hX] at this; exact this)
    have RR : Hid (∀ w, Calls Tryz.prog 7 #[rV X] w fun e w' => e = .returned (tmV X) ∧ Below w.heap.size w w') := Lib.hid (fun w => by have := real_plain k x t l w; rw [plain_rV, ← hX] at this; exact this)
    clear hX
    obtain ⟨l1, r1, h1⟩ := read_some (text0 X).data.toList
    obtain ⟨l2, r2, h2⟩ := read_some (text1 X).data.toList
    have AI := Lib.hid (fun w hv => asint_any X w SX.1 hv)
    have AB := Lib.hid (fun w => asbool_any X w)
    have RAI := Lib.hid (fun w => rasint_any X w SX.2.1)
    unfold RaRes at RAI
    have RAB := Lib.hid (fun w => rasbool_any X w)
    have GD := Lib.hid (fun w hm => tgood_any X l1 r1 l2 r2 w h1 h2 SX.2.2 hm)
    have RGD := Lib.hid (fun w => rgood_any X l1 r1 l2 r2 w h1 h2 SX.2.2)
    have KD := Lib.hid (fun w => (kind_any X w).mono (fun e w' h => (⟨h.1, h.2 ▸ Below.refl _ _⟩ : e = .returned (.int .i64 (kindV X)) ∧ Below w.heap.size w w')))
    have EF := Lib.hid (fun w hv => eff_any X w SX.1 hv)
    have REF := Lib.hid (fun w => reff_any X w SX.2.1)
    have MI := Lib.hid (fun h w => must_kind (X := X) h w)
    have G0 := Lib.hid (fun w hm => tgood_any .none [] [] [] [] w (by exact ⟨rfl, by simp, noSign_nil⟩) (by exact ⟨rfl, by simp, noSign_nil⟩) ⟨show (0 : Nat) ≤ 1000000 by omega, show (0 : Nat) ≤ 1000000 by omega, show (0 : Nat) ≤ 1000000 by omega⟩ hm)
    have K0 := Lib.hid (fun w => (kind_any .none w).mono (fun e w' h => (⟨h.1, h.2 ▸ Below.refl _ _⟩ : e = .returned (.int .i64 3) ∧ Below w.heap.size w w')))
    change Hid (∀ w, MaxV w → Calls Tryz.prog 12 #[.nilIface] w fun e w' => e = .returned (.bool false) ∧ Below w.heap.size w w') at G0
    change Hid (∀ w, Calls Tryz.prog 14 #[.nilIface] w fun e w' => e = .returned (.int .i64 3) ∧ Below w.heap.size w w') at K0
    have HN := Lib.hid (aiN_in X)
    have OF : Hid (∀ w, Calls Tryz.prog 18 #[.int .i64 (aiN X)] w (fun e w' => ∃ r, e = .returned r ∧ BigV w' r (aiN X) ∧ Below w.heap.size w w')) := Lib.hid (fun w => of_any _ w HN.out.1 HN.out.2)
    have SM := Lib.hid (fun w u v (hu : BigV w u (aiN X)) (hv : BigV w v (aiN X)) => bsame_any (aiN X) (aiN X) u v w (lows _ HN.out.1 HN.out.2) (lows _ HN.out.1 HN.out.2) hu hv)
    rw [decide_eq_true (rfl : aiN X = aiN X)] at SM
    have HNE := Lib.hid (nP_err X)
    have HEF := Lib.hid (eff_vals X)
    generalize goodV X r1 l1 l2 r2 = G at *
    generalize effV X = EV at *
    generalize aiN X = N at *
    generalize aiE X = E at *
    generalize abV X = V at *
    generalize abE X = EB at *
    unfold rV at *
    generalize tmV X = vx at *
    generalize kindV X = K at *
    generalize text0 X = A at *
    generalize text1 X = B at *
    generalize text2 X = C at *
    clear MX SX SH HB1 h1 h2
    have hfd : ∀ w, (Instr.field 50 (.agg #[.string A]) 0).run Tryz.prog w = .ok (.string A) w := fun w => by kernel_rfl
    have hwe : IntKind.i64.wrap EV = EV := IntWalk.i64_in _ (by have := HEF.out; omega)
    obtain ⟨c0, c1, c2, c3, cz⟩ := HX.out
    go_wp2_with fail
    refine (PR.out _).mono ?_
    rintro e w2 ⟨rfl, hbn⟩
    have z2 := cz.trans (hbn.mono cz.size)
    clear hbn cz c0 c1 c2 c3 HX PR
    go_wp2_with fail
    obtain ⟨w3, h3⟩ : ∃ w3, w3 = w2.alloc (.cells #[.int .i64 K, .string A, .string B, .string C] 23) := ⟨_, rfl⟩
    have HX : Hid (w3.cell? ⟨w2.heap.size, 0, none⟩ = some (.int .i64 K) ∧ w3.cell? ⟨w2.heap.size, 1, none⟩ = some (.string A) ∧ w3.cell? ⟨w2.heap.size, 2, none⟩ = some (.string B) ∧ w3.cell? ⟨w2.heap.size, 3, none⟩ = some (.string C) ∧ Below w.heap.size w w3) := Lib.hid (by
      rw [h3]
      exact ⟨by simp [go_sem], by simp [go_sem], by simp [go_sem], by simp [go_sem], z2.alloc z2.size _⟩)
    rw [← h3]
    clear h3 z2
    generalize w2.heap.size = g at *
    refine (RR.out _).mono ?_
    rintro e wn ⟨rfl, hbn⟩
    replace HX := Lib.hid (okept4 HX.out hbn)
    clear hbn
    obtain ⟨c0, c1, c2, c3, cz⟩ := HX.out
    go_wp2_with fail
    refine (AI.out _ (HEV.out _ cz)).mono ?_
    rintro e wn ⟨rfl, hbn⟩
    replace HX := Lib.hid (okept4 HX.out hbn)
    clear hbn cz c0 c1 c2 c3
    obtain ⟨c0, c1, c2, c3, cz⟩ := HX.out
    go_wp2_with fail
    refine (AB.out _).mono ?_
    rintro e wn ⟨rfl, hbn⟩
    replace HX := Lib.hid (okept4 HX.out hbn)
    clear hbn cz c0 c1 c2 c3
    obtain ⟨c0, c1, c2, c3, cz⟩ := HX.out
    go_wp2_with fail
    refine (RAI.out _).mono ?_
    rintro e wn ⟨bg, rfl, hbv, hbn⟩
    obtain ⟨s1, a1, n1, d1, rfl⟩ := big_form hbv
    replace HX := Lib.hid (okept4 HX.out hbn)
    have HBV := Lib.hid hbv
    clear hbn cz c0 c1 c2 c3 hbv
    obtain ⟨c0, c1, c2, c3, cz⟩ := HX.out
    have glt := block_lt_of_cell c0
    go_wp2_with fail
    clear glt
    obtain ⟨w5, h5⟩ : ∃ w5, w5 = wn.alloc (.cells #[.bool s1, .slice a1 n1 d1] 37) := ⟨_, rfl⟩
    have hbl : Below wn.heap.size wn w5 := by rw [h5]; exact (Below.refl _ _).alloc (Nat.le_refl _) _
    have HY : Hid (Held w5 g (.int .i64 K) (.string A) (.string B) (.string C) wn.heap.size (.bool s1) (.slice a1 n1 d1) N w) := Lib.hid (by
      have h4 := okept4 HX.out hbl
      exact ⟨h4.1, h4.2.1, h4.2.2.1, h4.2.2.2.1, by rw [h5]; simp [go_sem], by rw [h5]; simp [go_sem], bigV_below HBV.out hbl, h4.2.2.2.2⟩)
    rw [← h5]
    clear h5 hbl cz c0 c1 c2 c3 HX HBV
    generalize wn.heap.size = bb at *
    obtain ⟨c0, c1, c2, c3, c4, c5, cb, cz⟩ := HY.out
    have HCB := Lib.hid cb
    clear cb
    refine (RAB.out _).mono ?_
    rintro e wn ⟨rfl, hbn⟩
    replace HY := Lib.hid (held_below HY.out hbn)
    clear hbn
    clear cz c0 c1 c2 c3 c4 c5 HCB
    go_wp2_with fail
    refine wp_region_held_drew (S := fun w' => Held w' g (.int .i64 K) (.string A) (.string B) (.string C) bb (.bool s1) (.slice a1 n1 d1) N w) (by kernel_rfl) ?hSon30 (fun hHeld => ?_)
    case hSon30 => exact held_drew HY.out
    refine wpAnyH_take (i := 0) (oi := ⟨some 45, _, _, _, _, _⟩) (v := ?von30) rfl (by kernel_rfl) (by kernel_rfl) (by kernel_rfl) (fun _ _ _ h => h) (Or.inl ⟨by kernel_rfl, ?yon30⟩) (by assumption) ?ron30
    case yon30 =>
      intro w hSw
      obtain ⟨q0, q1, q2, q3, q4, q5, qb, qz⟩ := hSw
      clear qb qz
      first | (go_simp; done) | (go_simp; with_reducible rfl)
    try simp only [Act.put, List.setIfInBounds_toArray, List.set_cons_zero, List.set_cons_succ]
    refine wpAnyH_take (i := 2) (oi := ⟨some 47, _, _, _, _, _⟩) (v := ?von32) rfl (by kernel_rfl) (by kernel_rfl) (by kernel_rfl) (fun _ _ _ h => h) (Or.inl ⟨by kernel_rfl, ?yon32⟩) (by assumption) ?ron32
    case yon32 =>
      intro w hSw
      obtain ⟨q0, q1, q2, q3, q4, q5, qb, qz⟩ := hSw
      clear qb qz
      first | (go_simp; done) | (go_simp; with_reducible rfl)
    try simp only [Act.put, List.setIfInBounds_toArray, List.set_cons_zero, List.set_cons_succ]
    refine wpAnyH_ready (rs := [1]) (by kernel_rfl) (by simp) ?_
    refine AllReadyH.cons (i := 1) (o := ⟨some 46, _, _, _, _, _⟩) rfl (fun K hK => ?_) AllReadyH.nil
    go_simp
    go_at_call 12
    refine (GD.out _ (HMV.out _ hHeld.2.2.2.2.2.2.2)).mono ?_
    rintro e wp ⟨rfl, hb⟩
    go_wp2_with fail
    refine hK.out _ _ ?_ (fun hHeld => ?_)
    · exact held_below (by assumption) hb
    clear hK K
    try simp only [Act.put, List.setIfInBounds_toArray, List.set_cons_zero, List.set_cons_succ]
    refine wpAnyH_ready (rs := [3]) (by kernel_rfl) (by simp) ?_
    refine AllReadyH.cons (i := 3) (o := ⟨some 48, _, _, _, _, _⟩) rfl (fun K hK => ?_) AllReadyH.nil
    go_simp
    go_at_call 13
    refine (RGD.out _).mono ?_
    rintro e wp ⟨rfl, hb⟩
    go_wp2_with fail
    refine hK.out _ _ ?_ (fun hHeld => ?_)
    · exact held_below (by assumption) hb
    clear hK K
    try simp only [Act.put, List.setIfInBounds_toArray, List.set_cons_zero, List.set_cons_succ]
    refine wpAnyH_take (i := 4) (oi := ⟨some 49, _, _, _, _, _⟩) (v := ?von34) rfl (by kernel_rfl) (by kernel_rfl) (by kernel_rfl) (fun _ _ _ h => h) (Or.inl ⟨by kernel_rfl, ?yon34⟩) (by assumption) ?ron34
    case yon34 =>
      intro w hSw
      obtain ⟨q0, q1, q2, q3, q4, q5, qb, qz⟩ := hSw
      clear qb qz
      first | (go_simp; done) | (go_simp; with_reducible rfl)
    try simp only [Act.put, List.setIfInBounds_toArray, List.set_cons_zero, List.set_cons_succ]
    refine wpAnyH_take (i := 5) (oi := ⟨some 50, _, _, _, _, _⟩) (v := ?von35) rfl (by kernel_rfl) (by kernel_rfl) (by kernel_rfl) (fun _ _ _ h => h) (Or.inl ⟨by kernel_rfl, ?yon35⟩) (by assumption) ?ron35
    case yon35 =>
      intro w hSw
      obtain ⟨q0, q1, q2, q3, q4, q5, qb, qz⟩ := hSw
      clear qb qz
      first | (go_simp; done) | (go_simp; with_reducible rfl)
    try simp only [Act.put, List.setIfInBounds_toArray, List.set_cons_zero, List.set_cons_succ]
    refine wpAnyH_take (i := 6) (oi := ⟨some 51, _, _, _, _, _⟩) (v := ?von36) rfl (by kernel_rfl) (by kernel_rfl) (by kernel_rfl) (fun _ _ _ h => h) (Or.inl ⟨by kernel_rfl, ?yon36⟩) (by assumption) ?ron36
    case yon36 =>
      intro w hSw
      obtain ⟨q0, q1, q2, q3, q4, q5, qb, qz⟩ := hSw
      clear qb qz
      first | (go_simp; done) | (go_simp; with_reducible rfl)
    try simp only [Act.put, List.setIfInBounds_toArray, List.set_cons_zero, List.set_cons_succ]
    refine wpAnyH_take (i := 8) (oi := ⟨some 53, _, _, _, _, _⟩) (v := ?von38) rfl (by kernel_rfl) (by kernel_rfl) (by kernel_rfl) (fun _ _ _ h => h) (Or.inl ⟨by kernel_rfl, ?yon38⟩) (by assumption) ?ron38
    case yon38 =>
      intro w hSw
      obtain ⟨q0, q1, q2, q3, q4, q5, qb, qz⟩ := hSw
      clear qb qz
      first | (go_simp; done) | (go_simp; with_reducible rfl)
    try simp only [Act.put, List.setIfInBounds_toArray, List.set_cons_zero, List.set_cons_succ]
    refine wpAnyH_take (i := 9) (oi := ⟨some 54, _, _, _, _, _⟩) (v := ?von39) rfl (by kernel_rfl) (by kernel_rfl) (by kernel_rfl) (fun _ _ _ h => h) (Or.inl ⟨by kernel_rfl, ?yon39⟩) (by assumption) ?ron39
    case yon39 =>
      intro w hSw
      obtain ⟨q0, q1, q2, q3, q4, q5, qb, qz⟩ := hSw
      clear qb qz
      first | (go_simp; done) | (go_simp; with_reducible rfl)
    try simp only [Act.put, List.setIfInBounds_toArray, List.set_cons_zero, List.set_cons_succ]
    refine wpAnyH_ready (rs := [7]) (by kernel_rfl) (by simp) ?_
    refine AllReadyH.cons (i := 7) (o := ⟨some 52, _, _, _, _, _⟩) rfl (fun K hK => ?_) AllReadyH.nil
    go_simp
    go_at_call 14
    refine (KD.out _).mono ?_
    rintro e wp ⟨rfl, hb⟩
    go_wp2_with fail
    refine hK.out _ _ ?_ (fun hHeld => ?_)
    · exact held_below (by assumption) hb
    clear hK K
    try simp only [Act.put, List.setIfInBounds_toArray, List.set_cons_zero, List.set_cons_succ]
    refine wpAnyH_take (i := 10) (oi := ⟨some 55, _, _, _, _, _⟩) (v := ?von310) rfl (by kernel_rfl) (by kernel_rfl) (by kernel_rfl) (fun _ _ _ h => h) (Or.inl ⟨by kernel_rfl, ?yon310⟩) (by assumption) ?ron310
    case yon310 =>
      intro w hSw
      obtain ⟨q0, q1, q2, q3, q4, q5, qb, qz⟩ := hSw
      clear qb qz
      first | (go_simp; done) | (go_simp; with_reducible rfl)
    try simp only [Act.put, List.setIfInBounds_toArray, List.set_cons_zero, List.set_cons_succ]
    refine wpAnyH_take (i := 11) (oi := ⟨some 56, _, _, _, _, _⟩) (v := ?von311) rfl (by kernel_rfl) (by kernel_rfl) (by kernel_rfl) (fun _ _ _ h => h) (Or.inl ⟨by kernel_rfl, ?yon311⟩) (by assumption) ?ron311
    case yon311 =>
      intro w hSw
      obtain ⟨q0, q1, q2, q3, q4, q5, qb, qz⟩ := hSw
      clear qb qz
      first | (go_simp; done) | (go_simp; with_reducible rfl)
    try simp only [Act.put, List.setIfInBounds_toArray, List.set_cons_zero, List.set_cons_succ]
    refine wpAnyH_take (i := 12) (oi := ⟨some 57, _, _, _, _, _⟩) (v := ?von312) rfl (by kernel_rfl) (by kernel_rfl) (by kernel_rfl) (fun _ _ _ h => h) (Or.inl ⟨by kernel_rfl, ?yon312⟩) (by assumption) ?ron312
    case yon312 =>
      intro w hSw
      obtain ⟨q0, q1, q2, q3, q4, q5, qb, qz⟩ := hSw
      clear qb qz
      first | (go_simp; done) | (go_simp; with_reducible rfl)
    try simp only [Act.put, List.setIfInBounds_toArray, List.set_cons_zero, List.set_cons_succ]
    refine wpAnyH_take (i := 13) (oi := ⟨some 58, _, _, _, _, _⟩) (v := ?von313) rfl (by kernel_rfl) (by kernel_rfl) (by kernel_rfl) (fun _ _ _ h => h) (Or.inl ⟨by kernel_rfl, ?yon313⟩) (by assumption) ?ron313
    case yon313 =>
      intro w hSw
      obtain ⟨q0, q1, q2, q3, q4, q5, qb, qz⟩ := hSw
      clear qb qz
      first | (go_simp; done) | (go_simp; with_reducible rfl)
    try simp only [Act.put, List.setIfInBounds_toArray, List.set_cons_zero, List.set_cons_succ]
    refine wpAnyH_take (i := 14) (oi := ⟨some 59, _, _, _, _, _⟩) (v := ?von314) rfl (by kernel_rfl) (by kernel_rfl) (by kernel_rfl) (fun _ _ _ h => h) (Or.inl ⟨by kernel_rfl, ?yon314⟩) (by assumption) ?ron314
    case yon314 =>
      intro w hSw
      obtain ⟨q0, q1, q2, q3, q4, q5, qb, qz⟩ := hSw
      clear qb qz
      first | (go_simp; done) | (go_simp; with_reducible rfl)
    try simp only [Act.put, List.setIfInBounds_toArray, List.set_cons_zero, List.set_cons_succ]
    refine wpAnyH_take (i := 15) (oi := ⟨some 60, _, _, _, _, _⟩) (v := ?von315) rfl (by kernel_rfl) (by kernel_rfl) (by kernel_rfl) (fun _ _ _ h => h) (Or.inl ⟨by kernel_rfl, ?yon315⟩) (by assumption) ?ron315
    case yon315 =>
      intro w hSw
      obtain ⟨q0, q1, q2, q3, q4, q5, qb, qz⟩ := hSw
      clear qb qz
      first | (go_simp; done) | (go_simp; with_reducible rfl)
    try simp only [Act.put, List.setIfInBounds_toArray, List.set_cons_zero, List.set_cons_succ]
    refine wpAnyH_take (i := 16) (oi := ⟨some 61, _, _, _, _, _⟩) (v := ?von316) rfl (by kernel_rfl) (by kernel_rfl) (by kernel_rfl) (fun _ _ _ h => h) (Or.inl ⟨by kernel_rfl, ?yon316⟩) (by assumption) ?ron316
    case yon316 =>
      intro w hSw
      obtain ⟨q0, q1, q2, q3, q4, q5, qb, qz⟩ := hSw
      clear qb qz
      first | (go_simp; done) | (go_simp; with_reducible rfl)
    try simp only [Act.put, List.setIfInBounds_toArray, List.set_cons_zero, List.set_cons_succ]
    refine wpAnyH_take (i := 17) (oi := ⟨some 62, _, _, _, _, _⟩) (v := ?von317) rfl (by kernel_rfl) (by kernel_rfl) (by kernel_rfl) (fun _ _ _ h => h) (Or.inl ⟨by kernel_rfl, ?yon317⟩) (by assumption) ?ron317
    case yon317 =>
      intro w hSw
      obtain ⟨q0, q1, q2, q3, q4, q5, qb, qz⟩ := hSw
      clear qb qz
      first | (go_simp; done) | (go_simp; with_reducible rfl)
    try simp only [Act.put, List.setIfInBounds_toArray, List.set_cons_zero, List.set_cons_succ]
    refine wpAnyH_take (i := 18) (oi := ⟨some 63, _, _, _, _, _⟩) (v := ?von318) rfl (by kernel_rfl) (by kernel_rfl) (by kernel_rfl) (fun _ _ _ h => h) (Or.inl ⟨by kernel_rfl, ?yon318⟩) (by assumption) ?ron318
    case yon318 =>
      intro w hSw
      obtain ⟨q0, q1, q2, q3, q4, q5, qb, qz⟩ := hSw
      clear qb qz
      first | (go_simp; done) | (go_simp; with_reducible rfl)
    try simp only [Act.put, List.setIfInBounds_toArray, List.set_cons_zero, List.set_cons_succ]
    refine wpAnyH_take (i := 19) (oi := ⟨some 64, _, _, _, _, _⟩) (v := ?von319) rfl (by kernel_rfl) (by kernel_rfl) (by kernel_rfl) (fun _ _ _ h => h) (Or.inl ⟨by kernel_rfl, ?yon319⟩) (by assumption) ?ron319
    case yon319 =>
      intro w hSw
      obtain ⟨q0, q1, q2, q3, q4, q5, qb, qz⟩ := hSw
      clear qb qz
      first | (go_simp; done) | (go_simp; with_reducible rfl)
    try simp only [Act.put, List.setIfInBounds_toArray, List.set_cons_zero, List.set_cons_succ]
    refine wpAnyH_take (i := 20) (oi := ⟨some 65, _, _, _, _, _⟩) (v := ?von320) rfl (by kernel_rfl) (by kernel_rfl) (by kernel_rfl) (fun _ _ _ h => h) (Or.inl ⟨by kernel_rfl, ?yon320⟩) (by assumption) ?ron320
    case yon320 =>
      intro w hSw
      obtain ⟨q0, q1, q2, q3, q4, q5, qb, qz⟩ := hSw
      clear qb qz
      first | (go_simp; done) | (go_simp; with_reducible rfl)
    try simp only [Act.put, List.setIfInBounds_toArray, List.set_cons_zero, List.set_cons_succ]
    refine wpAnyH_take (i := 21) (oi := ⟨some 66, _, _, _, _, _⟩) (v := ?von321) rfl (by kernel_rfl) (by kernel_rfl) (by kernel_rfl) (fun _ _ _ h => h) (Or.inl ⟨by kernel_rfl, ?yon321⟩) (by assumption) ?ron321
    case yon321 =>
      intro w hSw
      obtain ⟨q0, q1, q2, q3, q4, q5, qb, qz⟩ := hSw
      clear qb qz
      first | (go_simp; done) | (go_simp; with_reducible rfl)
    try simp only [Act.put, List.setIfInBounds_toArray, List.set_cons_zero, List.set_cons_succ]
    refine wpAnyH_take (i := 22) (oi := ⟨some 67, _, _, _, _, _⟩) (v := ?von322) rfl (by kernel_rfl) (by kernel_rfl) (by kernel_rfl) (fun _ _ _ h => h) (Or.inl ⟨by kernel_rfl, ?yon322⟩) (by assumption) ?ron322
    case yon322 =>
      intro w hSw
      obtain ⟨q0, q1, q2, q3, q4, q5, qb, qz⟩ := hSw
      clear qb qz
      first | (go_simp; done) | (go_simp; with_reducible rfl)
    try simp only [Act.put, List.setIfInBounds_toArray, List.set_cons_zero, List.set_cons_succ]
    refine wpAnyH_take (i := 23) (oi := ⟨some 68, _, _, _, _, _⟩) (v := ?von323) rfl (by kernel_rfl) (by kernel_rfl) (by kernel_rfl) (fun _ _ _ h => h) (Or.inl ⟨by kernel_rfl, ?yon323⟩) (by assumption) ?ron323
    case yon323 =>
      intro w hSw
      obtain ⟨q0, q1, q2, q3, q4, q5, qb, qz⟩ := hSw
      clear qb qz
      first | (go_simp; done) | (go_simp; with_reducible rfl)
    try simp only [Act.put, List.setIfInBounds_toArray, List.set_cons_zero, List.set_cons_succ]
    refine wpAnyH_take (i := 24) (oi := ⟨some 69, _, _, _, _, _⟩) (v := ?von324) rfl (by kernel_rfl) (by kernel_rfl) (by kernel_rfl) (fun _ _ _ h => h) (Or.inl ⟨by kernel_rfl, ?yon324⟩) (by assumption) ?ron324
    case yon324 =>
      intro w hSw
      obtain ⟨q0, q1, q2, q3, q4, q5, qb, qz⟩ := hSw
      clear qb qz
      first | (go_simp; done) | (go_simp; with_reducible rfl)
    try simp only [Act.put, List.setIfInBounds_toArray, List.set_cons_zero, List.set_cons_succ]
    refine wpAnyH_take (i := 25) (oi := ⟨some 70, _, _, _, _, _⟩) (v := ?von325) rfl (by kernel_rfl) (by kernel_rfl) (by kernel_rfl) (fun _ _ _ h => h) (Or.inl ⟨by kernel_rfl, ?yon325⟩) (by assumption) ?ron325
    case yon325 =>
      intro w hSw
      obtain ⟨q0, q1, q2, q3, q4, q5, qb, qz⟩ := hSw
      clear qb qz
      first | (go_simp; done) | (go_simp; with_reducible rfl)
    try simp only [Act.put, List.setIfInBounds_toArray, List.set_cons_zero, List.set_cons_succ]
    refine wpAnyH_take (i := 26) (oi := ⟨some 71, _, _, _, _, _⟩) (v := ?von326) rfl (by kernel_rfl) (by kernel_rfl) (by kernel_rfl) (fun _ _ _ h => h) (Or.inl ⟨by kernel_rfl, ?yon326⟩) (by assumption) ?ron326
    case yon326 =>
      intro w hSw
      obtain ⟨q0, q1, q2, q3, q4, q5, qb, qz⟩ := hSw
      clear qb qz
      first | (go_simp; done) | (go_simp; with_reducible rfl)
    try simp only [Act.put, List.setIfInBounds_toArray, List.set_cons_zero, List.set_cons_succ]
    refine wpAnyH_take (i := 27) (oi := ⟨some 72, _, _, _, _, _⟩) (v := ?von327) rfl (by kernel_rfl) (by kernel_rfl) (by kernel_rfl) (fun _ _ _ h => h) (Or.inl ⟨by kernel_rfl, ?yon327⟩) (by assumption) ?ron327
    case yon327 =>
      intro w hSw
      obtain ⟨q0, q1, q2, q3, q4, q5, qb, qz⟩ := hSw
      clear qb qz
      first | (go_simp; done) | (go_simp; with_reducible rfl)
    try simp only [Act.put, List.setIfInBounds_toArray, List.set_cons_zero, List.set_cons_succ]
    refine wpAnyH_take (i := 28) (oi := ⟨some 73, _, _, _, _, _⟩) (v := ?von328) rfl (by kernel_rfl) (by kernel_rfl) (by kernel_rfl) (fun _ _ _ h => h) (Or.inl ⟨by kernel_rfl, ?yon328⟩) (by assumption) ?ron328
    case yon328 =>
      intro w hSw
      obtain ⟨q0, q1, q2, q3, q4, q5, qb, qz⟩ := hSw
      clear qb qz
      first | (go_simp; done) | (go_simp; with_reducible rfl)
    try simp only [Act.put, List.setIfInBounds_toArray, List.set_cons_zero, List.set_cons_succ]
    refine wpAnyH_take (i := 31) (oi := ⟨some 76, _, _, _, _, _⟩) (v := ?von331) rfl (by kernel_rfl) (by kernel_rfl) (by kernel_rfl) (fun _ _ _ h => h) (Or.inl ⟨by kernel_rfl, ?yon331⟩) (by assumption) ?ron331
    case yon331 =>
      intro w hSw
      obtain ⟨q0, q1, q2, q3, q4, q5, qb, qz⟩ := hSw
      clear qb qz
      first | (go_simp; done) | (go_simp; with_reducible rfl)
    try simp only [Act.put, List.setIfInBounds_toArray, List.set_cons_zero, List.set_cons_succ]
    refine wpAnyH_ready (rs := [29]) (by kernel_rfl) (by simp) ?_
    refine AllReadyH.cons (i := 29) (o := ⟨some 74, _, _, _, _, _⟩) rfl (fun K hK => ?_) AllReadyH.nil
    go_simp
    go_at_call 15
    refine (EF.out _ (HEV.out _ hHeld.2.2.2.2.2.2.2)).mono ?_
    rintro e wp ⟨rfl, hb⟩
    go_wp2_with fail
    refine hK.out _ _ ?_ (fun hHeld => ?_)
    · exact held_below (by assumption) hb
    clear hK K
    try simp only [Act.put, List.setIfInBounds_toArray, List.set_cons_zero, List.set_cons_succ]
    refine wpAnyH_take (i := 30) (oi := ⟨some 75, _, _, _, _, _⟩) (v := ?von330) rfl (by kernel_rfl) (by kernel_rfl) (by kernel_rfl) (fun _ _ _ h => h) (Or.inl ⟨by kernel_rfl, ?yon330⟩) (by assumption) ?ron330
    case yon330 =>
      intro w hSw
      obtain ⟨q0, q1, q2, q3, q4, q5, qb, qz⟩ := hSw
      clear qb qz
      first | (go_simp; done) | (go_simp; with_reducible rfl)
    try simp only [Act.put, List.setIfInBounds_toArray, List.set_cons_zero, List.set_cons_succ]
    refine wpAnyH_ready (rs := [32]) (by kernel_rfl) (by simp) ?_
    refine AllReadyH.cons (i := 32) (o := ⟨some 77, _, _, _, _, _⟩) rfl (fun K hK => ?_) AllReadyH.nil
    go_simp
    go_at_call 16
    refine (REF.out _).mono ?_
    rintro e wp ⟨rfl, hb⟩
    go_wp2_with fail
    refine hK.out _ _ ?_ (fun hHeld => ?_)
    · exact held_below (by assumption) hb
    clear hK K
    try simp only [Act.put, List.setIfInBounds_toArray, List.set_cons_zero, List.set_cons_succ]
    refine wpAnyH_take (i := 33) (oi := ⟨some 78, _, _, _, _, _⟩) (v := ?von333) rfl (by kernel_rfl) (by kernel_rfl) (by kernel_rfl) (fun _ _ _ h => h) (Or.inl ⟨by kernel_rfl, ?yon333⟩) (by assumption) ?ron333
    case yon333 =>
      intro w hSw
      obtain ⟨q0, q1, q2, q3, q4, q5, qb, qz⟩ := hSw
      clear qb qz
      first | (go_simp; done) | (go_simp; with_reducible rfl)
    try simp only [Act.put, List.setIfInBounds_toArray, List.set_cons_zero, List.set_cons_succ]
    refine wpAnyH_take (i := 34) (oi := ⟨some 79, _, _, _, _, _⟩) (v := ?von334) rfl (by kernel_rfl) (by kernel_rfl) (by kernel_rfl) (fun _ _ _ h => h) (Or.inl ⟨by kernel_rfl, ?yon334⟩) (by assumption) ?ron334
    case yon334 =>
      intro w hSw
      obtain ⟨q0, q1, q2, q3, q4, q5, qb, qz⟩ := hSw
      clear qb qz
      first | (go_simp; done) | (go_simp; with_reducible rfl)
    try simp only [Act.put, List.setIfInBounds_toArray, List.set_cons_zero, List.set_cons_succ]
    refine wpAnyH_done (by kernel_rfl) ?_ _
    replace HY := Lib.hid hHeld
    clear hHeld
    by_cases hE : E = 0
    · subst hE
      go_wp2_with fail
      refine wp_region_held_drew (S := fun w' => Held w' g (.int .i64 K) (.string A) (.string B) (.string C) bb (.bool s1) (.slice a1 n1 d1) N w) (by kernel_rfl) ?hSon40 (fun hHeld => ?_)
      case hSon40 => exact held_drew HY.out
      refine wpAnyH_take (i := 0) (oi := ⟨some 80, _, _, _, _, _⟩) (v := ?von40) rfl (by kernel_rfl) (by kernel_rfl) (by kernel_rfl) (fun _ _ _ h => h) (Or.inl ⟨by kernel_rfl, ?yon40⟩) (by assumption) ?ron40
      case yon40 =>
        intro w hSw
        obtain ⟨q0, q1, q2, q3, q4, q5, qb, qz⟩ := hSw
        clear qb qz
        first | (go_simp; done) | (go_simp; with_reducible rfl)
      try simp only [Act.put, List.setIfInBounds_toArray, List.set_cons_zero, List.set_cons_succ]
      refine wpAnyH_take (i := 1) (oi := ⟨some 81, _, _, _, _, _⟩) (v := ?von41) rfl (by kernel_rfl) (by kernel_rfl) (by kernel_rfl) (fun _ _ _ h => h) (Or.inl ⟨by kernel_rfl, ?yon41⟩) (by assumption) ?ron41
      case yon41 =>
        intro w hSw
        obtain ⟨q0, q1, q2, q3, q4, q5, qb, qz⟩ := hSw
        clear qb qz
        first | (go_simp; done) | (go_simp; with_reducible rfl)
      try simp only [Act.put, List.setIfInBounds_toArray, List.set_cons_zero, List.set_cons_succ]
      refine wpAnyH_take (i := 2) (oi := ⟨some 82, _, _, _, _, _⟩) (v := ?von42) rfl (by kernel_rfl) (by kernel_rfl) (by kernel_rfl) (fun _ _ _ h => h) (Or.inl ⟨by kernel_rfl, ?yon42⟩) (by assumption) ?ron42
      case yon42 =>
        intro w hSw
        obtain ⟨q0, q1, q2, q3, q4, q5, qb, qz⟩ := hSw
        clear qb qz
        first | (go_simp; done) | (go_simp; with_reducible rfl)
      try simp only [Act.put, List.setIfInBounds_toArray, List.set_cons_zero, List.set_cons_succ]
      refine wpAnyH_take (i := 3) (oi := ⟨some 83, _, _, _, _, _⟩) (v := undef) rfl (by kernel_rfl) (by kernel_rfl) (by kernel_rfl) (fun _ _ _ h => h) (Or.inr ⟨by kernel_rfl, rfl⟩) (by assumption) ?ron43
      try simp only [Act.put, List.setIfInBounds_toArray, List.set_cons_zero, List.set_cons_succ]
      refine wpAnyH_take (i := 4) (oi := ⟨some 84, _, _, _, _, _⟩) (v := undef) rfl (by kernel_rfl) (by kernel_rfl) (by kernel_rfl) (fun _ _ _ h => h) (Or.inr ⟨by kernel_rfl, rfl⟩) (by assumption) ?ron44
      try simp only [Act.put, List.setIfInBounds_toArray, List.set_cons_zero, List.set_cons_succ]
      refine wpAnyH_take (i := 5) (oi := ⟨some 85, _, _, _, _, _⟩) (v := ?von45) rfl (by kernel_rfl) (by kernel_rfl) (by kernel_rfl) (fun _ _ _ h => h) (Or.inl ⟨by kernel_rfl, ?yon45⟩) (by assumption) ?ron45
      case yon45 =>
        intro w hSw
        obtain ⟨q0, q1, q2, q3, q4, q5, qb, qz⟩ := hSw
        clear qb qz
        first | (go_simp; done) | (go_simp; with_reducible rfl)
      try simp only [Act.put, List.setIfInBounds_toArray, List.set_cons_zero, List.set_cons_succ]
      refine wpAnyH_take (i := 6) (oi := ⟨some 86, _, _, _, _, _⟩) (v := ?von46) rfl (by kernel_rfl) (by kernel_rfl) (by kernel_rfl) (fun _ _ _ h => h) (Or.inl ⟨by kernel_rfl, ?yon46⟩) (by assumption) ?ron46
      case yon46 =>
        intro w hSw
        obtain ⟨q0, q1, q2, q3, q4, q5, qb, qz⟩ := hSw
        clear qb qz
        first | (go_simp; done) | (go_simp; with_reducible rfl)
      try simp only [Act.put, List.setIfInBounds_toArray, List.set_cons_zero, List.set_cons_succ]
      refine wpAnyH_take (i := 7) (oi := ⟨some 87, _, _, _, _, _⟩) (v := ?von47) rfl (by kernel_rfl) (by kernel_rfl) (by kernel_rfl) (fun _ _ _ h => h) (Or.inl ⟨by kernel_rfl, ?yon47⟩) (by assumption) ?ron47
      case yon47 =>
        intro w hSw
        obtain ⟨q0, q1, q2, q3, q4, q5, qb, qz⟩ := hSw
        clear qb qz
        first | (go_simp; done) | (go_simp; with_reducible rfl)
      try simp only [Act.put, List.setIfInBounds_toArray, List.set_cons_zero, List.set_cons_succ]
      refine wpAnyH_take (i := 8) (oi := ⟨some 88, _, _, _, _, _⟩) (v := ?von48) rfl (by kernel_rfl) (by kernel_rfl) (by kernel_rfl) (fun _ _ _ h => h) (Or.inl ⟨by kernel_rfl, ?yon48⟩) (by assumption) ?ron48
      case yon48 =>
        intro w hSw
        obtain ⟨q0, q1, q2, q3, q4, q5, qb, qz⟩ := hSw
        clear qb qz
        first | (go_simp; done) | (go_simp; with_reducible rfl)
      try simp only [Act.put, List.setIfInBounds_toArray, List.set_cons_zero, List.set_cons_succ]
      refine wpAnyH_take (i := 9) (oi := ⟨some 89, _, _, _, _, _⟩) (v := ?von49) rfl (by kernel_rfl) (by kernel_rfl) (by kernel_rfl) (fun _ _ _ h => h) (Or.inl ⟨by kernel_rfl, ?yon49⟩) (by assumption) ?ron49
      case yon49 =>
        intro w hSw
        obtain ⟨q0, q1, q2, q3, q4, q5, qb, qz⟩ := hSw
        clear qb qz
        first | (go_simp; done) | (go_simp; with_reducible rfl)
      try simp only [Act.put, List.setIfInBounds_toArray, List.set_cons_zero, List.set_cons_succ]
      refine wpAnyH_take (i := 10) (oi := ⟨some 90, _, _, _, _, _⟩) (v := ?von410) rfl (by kernel_rfl) (by kernel_rfl) (by kernel_rfl) (fun _ _ _ h => h) (Or.inl ⟨by kernel_rfl, ?yon410⟩) (by assumption) ?ron410
      case yon410 =>
        intro w hSw
        obtain ⟨q0, q1, q2, q3, q4, q5, qb, qz⟩ := hSw
        clear qb qz
        first | (go_simp; done) | (go_simp; with_reducible rfl)
      try simp only [Act.put, List.setIfInBounds_toArray, List.set_cons_zero, List.set_cons_succ]
      refine wpAnyH_take (i := 12) (oi := ⟨some 92, _, _, _, _, _⟩) (v := ?von412) rfl (by kernel_rfl) (by kernel_rfl) (by kernel_rfl) (fun _ _ _ h => h) (Or.inl ⟨by kernel_rfl, ?yon412⟩) (by assumption) ?ron412
      case yon412 =>
        intro w hSw
        obtain ⟨q0, q1, q2, q3, q4, q5, qb, qz⟩ := hSw
        clear qb qz
        first | (go_simp; done) | (go_simp; with_reducible rfl)
      try simp only [Act.put, List.setIfInBounds_toArray, List.set_cons_zero, List.set_cons_succ]
      refine wpAnyH_ready (rs := [11]) (by kernel_rfl) (by simp) ?_
      refine AllReadyH.cons (i := 11) (o := ⟨some 91, _, _, _, _, _⟩) rfl (fun K hK => ?_) AllReadyH.nil
      go_simp
      go_at_call 18
      refine (OF.out _).mono ?_
      rintro e wp ⟨r, rfl, hr, hb⟩
      have HRV := Lib.hid hr
      clear hr
      go_wp2_with fail
      refine hK.out _ _ ?_ (fun hHeld => ?_)
      · exact held_below (by assumption) hb
      clear hK K
      try simp only [Act.put, List.setIfInBounds_toArray, List.set_cons_zero, List.set_cons_succ]
      refine wpAnyH_ready (rs := [13]) (by kernel_rfl) (by simp) ?_
      refine AllReadyH.cons (i := 13) (o := ⟨some 93, _, _, _, _, _⟩) rfl (fun K hK => ?_) AllReadyH.nil
      go_simp
      go_at_call 17
      refine (SM.out _ _ _ HRV.out hHeld.2.2.2.2.2.2.1).mono ?_
      rintro e wp ⟨rfl, hb⟩
      go_wp2_with fail
      refine hK.out _ _ ?_ (fun hHeld => ?_)
      · exact held_below (by assumption) hb
      clear hK K
      try simp only [Act.put, List.setIfInBounds_toArray, List.set_cons_zero, List.set_cons_succ]
      refine wpAnyH_take (i := 14) (oi := ⟨some 94, _, _, _, _, _⟩) (v := ?von414) rfl (by kernel_rfl) (by kernel_rfl) (by kernel_rfl) (fun _ _ _ h => h) (Or.inl ⟨by kernel_rfl, ?yon414⟩) (by assumption) ?ron414
      case yon414 =>
        intro w hSw
        obtain ⟨q0, q1, q2, q3, q4, q5, qb, qz⟩ := hSw
        clear qb qz
        first | (go_simp; done) | (go_simp; with_reducible rfl)
      try simp only [Act.put, List.setIfInBounds_toArray, List.set_cons_zero, List.set_cons_succ]
      refine wpAnyH_take (i := 15) (oi := ⟨some 95, _, _, _, _, _⟩) (v := ?von415) rfl (by kernel_rfl) (by kernel_rfl) (by kernel_rfl) (fun _ _ _ h => h) (Or.inl ⟨by kernel_rfl, ?yon415⟩) (by assumption) ?ron415
      case yon415 =>
        intro w hSw
        obtain ⟨q0, q1, q2, q3, q4, q5, qb, qz⟩ := hSw
        clear qb qz
        first | (go_simp; done) | (go_simp; with_reducible rfl)
      try simp only [Act.put, List.setIfInBounds_toArray, List.set_cons_zero, List.set_cons_succ]
      refine wpAnyH_take (i := 16) (oi := ⟨some 96, _, _, _, _, _⟩) (v := ?von416) rfl (by kernel_rfl) (by kernel_rfl) (by kernel_rfl) (fun _ _ _ h => h) (Or.inl ⟨by kernel_rfl, ?yon416⟩) (by assumption) ?ron416
      case yon416 =>
        intro w hSw
        obtain ⟨q0, q1, q2, q3, q4, q5, qb, qz⟩ := hSw
        clear qb qz
        first | (go_simp; done) | (go_simp; with_reducible rfl)
      try simp only [Act.put, List.setIfInBounds_toArray, List.set_cons_zero, List.set_cons_succ]
      refine wpAnyH_done (by kernel_rfl) ?_ _
      replace HY := Lib.hid hHeld
      clear hHeld
      by_cases hk1 : K = 1
      · have MIK := Lib.hid (MI.out hk1)
        have q9 : (K != 1) = false := by simp [hk1]
        clear hk1
        go_wp2_with fail
        refine wp_region_held_drew (S := fun w' => Held w' g (.int .i64 K) (.string A) (.string B) (.string C) bb (.bool s1) (.slice a1 n1 d1) N w) (by kernel_rfl) ?hSon50 (fun hHeld => ?_)
        case hSon50 => exact held_drew HY.out
        refine wpAnyH_ready (rs := [0]) (by kernel_rfl) (by simp) ?_
        refine AllReadyH.cons (i := 0) (o := ⟨some 97, _, _, _, _, _⟩) rfl (fun K hK => ?_) AllReadyH.nil
        go_simp
        go_at_call 12
        refine (G0.out _ (HMV.out _ hHeld.2.2.2.2.2.2.2)).mono ?_
        rintro e wp ⟨rfl, hb⟩
        go_wp2_with fail
        refine hK.out _ _ ?_ (fun hHeld => ?_)
        · exact held_below (by assumption) hb
        clear hK K
        try simp only [Act.put, List.setIfInBounds_toArray, List.set_cons_zero, List.set_cons_succ]
        refine wpAnyH_take (i := 1) (oi := ⟨some 98, _, _, _, _, _⟩) (v := ?von51) rfl (by kernel_rfl) (by kernel_rfl) (by kernel_rfl) (fun _ _ _ h => h) (Or.inl ⟨by kernel_rfl, ?yon51⟩) (by assumption) ?ron51
        case yon51 =>
          intro w hSw
          obtain ⟨q0, q1, q2, q3, q4, q5, qb, qz⟩ := hSw
          clear qb qz
          first | (go_simp; done) | (go_simp; with_reducible rfl)
        try simp only [Act.put, List.setIfInBounds_toArray, List.set_cons_zero, List.set_cons_succ]
        refine wpAnyH_take (i := 2) (oi := ⟨some 99, _, _, _, _, _⟩) (v := ?von52) rfl (by kernel_rfl) (by kernel_rfl) (by kernel_rfl) (fun _ _ _ h => h) (Or.inl ⟨by kernel_rfl, ?yon52⟩) (by assumption) ?ron52
        case yon52 =>
          intro w hSw
          obtain ⟨q0, q1, q2, q3, q4, q5, qb, qz⟩ := hSw
          clear qb qz
          first | (go_simp; done) | (go_simp; with_reducible rfl)
        try simp only [Act.put, List.setIfInBounds_toArray, List.set_cons_zero, List.set_cons_succ]
        refine wpAnyH_ready (rs := [3]) (by kernel_rfl) (by simp) ?_
        refine AllReadyH.cons (i := 3) (o := ⟨some 100, _, _, _, _, _⟩) rfl (fun K hK => ?_) AllReadyH.nil
        go_simp
        go_at_call 14
        refine (K0.out _).mono ?_
        rintro e wp ⟨rfl, hb⟩
        go_wp2_with fail
        refine hK.out _ _ ?_ (fun hHeld => ?_)
        · exact held_below (by assumption) hb
        clear hK K
        try simp only [Act.put, List.setIfInBounds_toArray, List.set_cons_zero, List.set_cons_succ]
        refine wpAnyH_take (i := 4) (oi := ⟨some 101, _, _, _, _, _⟩) (v := ?von54) rfl (by kernel_rfl) (by kernel_rfl) (by kernel_rfl) (fun _ _ _ h => h) (Or.inl ⟨by kernel_rfl, ?yon54⟩) (by assumption) ?ron54
        case yon54 =>
          intro w hSw
          obtain ⟨q0, q1, q2, q3, q4, q5, qb, qz⟩ := hSw
          clear qb qz
          first | (go_simp; done) | (go_simp; with_reducible rfl)
        try simp only [Act.put, List.setIfInBounds_toArray, List.set_cons_zero, List.set_cons_succ]
        refine wpAnyH_take (i := 5) (oi := ⟨some 102, _, _, _, _, _⟩) (v := ?von55) rfl (by kernel_rfl) (by kernel_rfl) (by kernel_rfl) (fun _ _ _ h => h) (Or.inl ⟨by kernel_rfl, ?yon55⟩) (by assumption) ?ron55
        case yon55 =>
          intro w hSw
          obtain ⟨q0, q1, q2, q3, q4, q5, qb, qz⟩ := hSw
          clear qb qz
          first | (go_simp; done) | (go_simp; with_reducible rfl)
        try simp only [Act.put, List.setIfInBounds_toArray, List.set_cons_zero, List.set_cons_succ]
        refine wpAnyH_take (i := 6) (oi := ⟨some 103, _, _, _, _, _⟩) (v := ?von56) rfl (by kernel_rfl) (by kernel_rfl) (by kernel_rfl) (fun _ _ _ h => h) (Or.inl ⟨by kernel_rfl, ?yon56⟩) (by assumption) ?ron56
        case yon56 =>
          intro w hSw
          obtain ⟨q0, q1, q2, q3, q4, q5, qb, qz⟩ := hSw
          clear qb qz
          first | (go_simp; done) | (go_simp; with_reducible rfl)
        try simp only [Act.put, List.setIfInBounds_toArray, List.set_cons_zero, List.set_cons_succ]
        refine wpAnyH_take (i := 7) (oi := ⟨some 104, _, _, _, _, _⟩) (v := ?von57) rfl (by kernel_rfl) (by kernel_rfl) (by kernel_rfl) (fun _ _ _ h => h) (Or.inl ⟨by kernel_rfl, ?yon57⟩) (by assumption) ?ron57
        case yon57 =>
          intro w hSw
          obtain ⟨q0, q1, q2, q3, q4, q5, qb, qz⟩ := hSw
          clear qb qz
          first | (go_simp; done) | (go_simp; with_reducible rfl)
        try simp only [Act.put, List.setIfInBounds_toArray, List.set_cons_zero, List.set_cons_succ]
        refine wpAnyH_take (i := 8) (oi := ⟨some 105, _, _, _, _, _⟩) (v := ?von58) rfl (by kernel_rfl) (by kernel_rfl) (by kernel_rfl) (fun _ _ _ h => h) (Or.inl ⟨by kernel_rfl, ?yon58⟩) (by assumption) ?ron58
        case yon58 =>
          intro w hSw
          obtain ⟨q0, q1, q2, q3, q4, q5, qb, qz⟩ := hSw
          clear qb qz
          first | (go_simp; done) | (go_simp; with_reducible rfl)
        try simp only [Act.put, List.setIfInBounds_toArray, List.set_cons_zero, List.set_cons_succ]
        refine wpAnyH_take (i := 9) (oi := ⟨some 106, _, _, _, _, _⟩) (v := ?von59) rfl (by kernel_rfl) (by kernel_rfl) (by kernel_rfl) (fun _ _ _ h => h) (Or.inl ⟨by kernel_rfl, ?yon59⟩) (by assumption) ?ron59
        case yon59 =>
          intro w hSw
          obtain ⟨q0, q1, q2, q3, q4, q5, qb, qz⟩ := hSw
          clear qb qz
          first | (go_simp; done) | (go_simp; with_reducible rfl)
        try simp only [Act.put, List.setIfInBounds_toArray, List.set_cons_zero, List.set_cons_succ]
        refine wpAnyH_take (i := 10) (oi := ⟨some 107, _, _, _, _, _⟩) (v := ?von510) rfl (by kernel_rfl) (by kernel_rfl) (by kernel_rfl) (fun _ _ _ h => h) (Or.inl ⟨by kernel_rfl, ?yon510⟩) (by assumption) ?ron510
        case yon510 =>
          intro w hSw
          obtain ⟨q0, q1, q2, q3, q4, q5, qb, qz⟩ := hSw
          clear qb qz
          first | (go_simp; done) | (go_simp; with_reducible rfl)
        try simp only [Act.put, List.setIfInBounds_toArray, List.set_cons_zero, List.set_cons_succ]
        refine wpAnyH_take (i := 11) (oi := ⟨some 108, _, _, _, _, _⟩) (v := ?von511) rfl (by kernel_rfl) (by kernel_rfl) (by kernel_rfl) (fun _ _ _ h => h) (Or.inl ⟨by kernel_rfl, ?yon511⟩) (by assumption) ?ron511
        case yon511 =>
          intro w hSw
          obtain ⟨q0, q1, q2, q3, q4, q5, qb, qz⟩ := hSw
          clear qb qz
          first | (go_simp; done) | (go_simp; with_reducible rfl)
        try simp only [Act.put, List.setIfInBounds_toArray, List.set_cons_zero, List.set_cons_succ]
        refine wpAnyH_take (i := 14) (oi := ⟨some 111, _, _, _, _, _⟩) (v := ?von514) rfl (by kernel_rfl) (by kernel_rfl) (by kernel_rfl) (fun _ _ _ h => h) (Or.inl ⟨by kernel_rfl, ?yon514⟩) (by assumption) ?ron514
        case yon514 =>
          intro w hSw
          obtain ⟨q0, q1, q2, q3, q4, q5, qb, qz⟩ := hSw
          clear qb qz
          first | (go_simp; done) | (go_simp; with_reducible rfl)
        try simp only [Act.put, List.setIfInBounds_toArray, List.set_cons_zero, List.set_cons_succ]
        refine wpAnyH_take (i := 15) (oi := ⟨some 112, _, _, _, _, _⟩) (v := ?von515) rfl (by kernel_rfl) (by kernel_rfl) (by kernel_rfl) (fun _ _ _ h => h) (Or.inl ⟨by kernel_rfl, ?yon515⟩) (by assumption) ?ron515
        case yon515 =>
          intro w hSw
          obtain ⟨q0, q1, q2, q3, q4, q5, qb, qz⟩ := hSw
          clear qb qz
          first | (go_simp; done) | (go_simp; with_reducible rfl)
        try simp only [Act.put, List.setIfInBounds_toArray, List.set_cons_zero, List.set_cons_succ]
        refine wpAnyH_ready (rs := [12]) (by kernel_rfl) (by simp) ?_
        refine AllReadyH.cons (i := 12) (o := ⟨some 109, _, _, _, _, _⟩) rfl (fun K hK => ?_) AllReadyH.nil
        go_simp
        go_at_call 19
        refine (MIK.out _).mono ?_
        rintro e wp ⟨rfl, hb⟩
        go_wp2_with fail
        refine hK.out _ _ ?_ (fun hHeld => ?_)
        · exact held_below (by assumption) hb
        clear hK K
        try simp only [Act.put, List.setIfInBounds_toArray, List.set_cons_zero, List.set_cons_succ]
        refine wpAnyH_take (i := 13) (oi := ⟨some 110, _, _, _, _, _⟩) (v := ?von513) rfl (by kernel_rfl) (by kernel_rfl) (by kernel_rfl) (fun _ _ _ h => h) (Or.inl ⟨by kernel_rfl, ?yon513⟩) (by assumption) ?ron513
        case yon513 =>
          intro w hSw
          obtain ⟨q0, q1, q2, q3, q4, q5, qb, qz⟩ := hSw
          clear qb qz
          first | (go_simp; done) | (go_simp; with_reducible rfl)
        try simp only [Act.put, List.setIfInBounds_toArray, List.set_cons_zero, List.set_cons_succ]
        refine wpAnyH_take (i := 16) (oi := ⟨some 113, _, _, _, _, _⟩) (v := ?von516) rfl (by kernel_rfl) (by kernel_rfl) (by kernel_rfl) (fun _ _ _ h => h) (Or.inl ⟨by kernel_rfl, ?yon516⟩) (by assumption) ?ron516
        case yon516 =>
          intro w hSw
          obtain ⟨q0, q1, q2, q3, q4, q5, qb, qz⟩ := hSw
          clear qb qz
          first | (go_simp; done) | (go_simp; with_reducible rfl)
        try simp only [Act.put, List.setIfInBounds_toArray, List.set_cons_zero, List.set_cons_succ]
        refine wpAnyH_take (i := 17) (oi := ⟨some 114, _, _, _, _, _⟩) (v := ?von517) rfl (by kernel_rfl) (by kernel_rfl) (by kernel_rfl) (fun _ _ _ h => h) (Or.inl ⟨by kernel_rfl, ?yon517⟩) (by assumption) ?ron517
        case yon517 =>
          intro w hSw
          obtain ⟨q0, q1, q2, q3, q4, q5, qb, qz⟩ := hSw
          clear qb qz
          first | (go_simp; done) | (go_simp; with_reducible rfl)
        try simp only [Act.put, List.setIfInBounds_toArray, List.set_cons_zero, List.set_cons_succ]
        refine wpAnyH_take (i := 18) (oi := ⟨some 115, _, _, _, _, _⟩) (v := ?von518) rfl (by kernel_rfl) (by kernel_rfl) (by kernel_rfl) (fun _ _ _ h => h) (Or.inl ⟨by kernel_rfl, ?yon518⟩) (by assumption) ?ron518
        case yon518 =>
          intro w hSw
          obtain ⟨q0, q1, q2, q3, q4, q5, qb, qz⟩ := hSw
          clear qb qz
          first | (go_simp; done) | (go_simp; with_reducible rfl)
        try simp only [Act.put, List.setIfInBounds_toArray, List.set_cons_zero, List.set_cons_succ]
        refine wpAnyH_take (i := 19) (oi := ⟨some 2, _, _, _, _, _⟩) (v := ?von519) rfl (by kernel_rfl) (by kernel_rfl) (by kernel_rfl) (fun _ _ _ h => h) (Or.inl ⟨by kernel_rfl, ?yon519⟩) (by assumption) ?ron519
        case yon519 =>
          intro w hSw
          obtain ⟨q0, q1, q2, q3, q4, q5, qb, qz⟩ := hSw
          clear qb qz
          first | (go_simp; done) | (go_simp; with_reducible rfl)
        try simp only [Act.put, List.setIfInBounds_toArray, List.set_cons_zero, List.set_cons_succ]
        refine wpAnyH_done (by kernel_rfl) ?_ _
        have HZZ := Lib.hid hHeld.2.2.2.2.2.2.2
        go_wp2_with fail
        go_ret
        exact ⟨rfl, HZZ.out⟩
      · have q9 : (K != 1) = true := by simpa using hk1
        clear hk1
        go_wp2_with fail
        refine wp_region_held_drew (S := fun w' => Held w' g (.int .i64 K) (.string A) (.string B) (.string C) bb (.bool s1) (.slice a1 n1 d1) N w) (by kernel_rfl) ?hSon60 (fun hHeld => ?_)
        case hSon60 => exact held_drew HY.out
        refine wpAnyH_ready (rs := [0]) (by kernel_rfl) (by simp) ?_
        refine AllReadyH.cons (i := 0) (o := ⟨some 97, _, _, _, _, _⟩) rfl (fun K hK => ?_) AllReadyH.nil
        go_simp
        go_at_call 12
        refine (G0.out _ (HMV.out _ hHeld.2.2.2.2.2.2.2)).mono ?_
        rintro e wp ⟨rfl, hb⟩
        go_wp2_with fail
        refine hK.out _ _ ?_ (fun hHeld => ?_)
        · exact held_below (by assumption) hb
        clear hK K
        try simp only [Act.put, List.setIfInBounds_toArray, List.set_cons_zero, List.set_cons_succ]
        refine wpAnyH_take (i := 1) (oi := ⟨some 98, _, _, _, _, _⟩) (v := ?von61) rfl (by kernel_rfl) (by kernel_rfl) (by kernel_rfl) (fun _ _ _ h => h) (Or.inl ⟨by kernel_rfl, ?yon61⟩) (by assumption) ?ron61
        case yon61 =>
          intro w hSw
          obtain ⟨q0, q1, q2, q3, q4, q5, qb, qz⟩ := hSw
          clear qb qz
          first | (go_simp; done) | (go_simp; with_reducible rfl)
        try simp only [Act.put, List.setIfInBounds_toArray, List.set_cons_zero, List.set_cons_succ]
        refine wpAnyH_take (i := 2) (oi := ⟨some 99, _, _, _, _, _⟩) (v := ?von62) rfl (by kernel_rfl) (by kernel_rfl) (by kernel_rfl) (fun _ _ _ h => h) (Or.inl ⟨by kernel_rfl, ?yon62⟩) (by assumption) ?ron62
        case yon62 =>
          intro w hSw
          obtain ⟨q0, q1, q2, q3, q4, q5, qb, qz⟩ := hSw
          clear qb qz
          first | (go_simp; done) | (go_simp; with_reducible rfl)
        try simp only [Act.put, List.setIfInBounds_toArray, List.set_cons_zero, List.set_cons_succ]
        refine wpAnyH_ready (rs := [3]) (by kernel_rfl) (by simp) ?_
        refine AllReadyH.cons (i := 3) (o := ⟨some 100, _, _, _, _, _⟩) rfl (fun K hK => ?_) AllReadyH.nil
        go_simp
        go_at_call 14
        refine (K0.out _).mono ?_
        rintro e wp ⟨rfl, hb⟩
        go_wp2_with fail
        refine hK.out _ _ ?_ (fun hHeld => ?_)
        · exact held_below (by assumption) hb
        clear hK K
        try simp only [Act.put, List.setIfInBounds_toArray, List.set_cons_zero, List.set_cons_succ]
        refine wpAnyH_take (i := 4) (oi := ⟨some 101, _, _, _, _, _⟩) (v := ?von64) rfl (by kernel_rfl) (by kernel_rfl) (by kernel_rfl) (fun _ _ _ h => h) (Or.inl ⟨by kernel_rfl, ?yon64⟩) (by assumption) ?ron64
        case yon64 =>
          intro w hSw
          obtain ⟨q0, q1, q2, q3, q4, q5, qb, qz⟩ := hSw
          clear qb qz
          first | (go_simp; done) | (go_simp; with_reducible rfl)
        try simp only [Act.put, List.setIfInBounds_toArray, List.set_cons_zero, List.set_cons_succ]
        refine wpAnyH_take (i := 5) (oi := ⟨some 102, _, _, _, _, _⟩) (v := ?von65) rfl (by kernel_rfl) (by kernel_rfl) (by kernel_rfl) (fun _ _ _ h => h) (Or.inl ⟨by kernel_rfl, ?yon65⟩) (by assumption) ?ron65
        case yon65 =>
          intro w hSw
          obtain ⟨q0, q1, q2, q3, q4, q5, qb, qz⟩ := hSw
          clear qb qz
          first | (go_simp; done) | (go_simp; with_reducible rfl)
        try simp only [Act.put, List.setIfInBounds_toArray, List.set_cons_zero, List.set_cons_succ]
        refine wpAnyH_take (i := 6) (oi := ⟨some 103, _, _, _, _, _⟩) (v := ?von66) rfl (by kernel_rfl) (by kernel_rfl) (by kernel_rfl) (fun _ _ _ h => h) (Or.inl ⟨by kernel_rfl, ?yon66⟩) (by assumption) ?ron66
        case yon66 =>
          intro w hSw
          obtain ⟨q0, q1, q2, q3, q4, q5, qb, qz⟩ := hSw
          clear qb qz
          first | (go_simp; done) | (go_simp; with_reducible rfl)
        try simp only [Act.put, List.setIfInBounds_toArray, List.set_cons_zero, List.set_cons_succ]
        refine wpAnyH_take (i := 7) (oi := ⟨some 104, _, _, _, _, _⟩) (v := ?von67) rfl (by kernel_rfl) (by kernel_rfl) (by kernel_rfl) (fun _ _ _ h => h) (Or.inl ⟨by kernel_rfl, ?yon67⟩) (by assumption) ?ron67
        case yon67 =>
          intro w hSw
          obtain ⟨q0, q1, q2, q3, q4, q5, qb, qz⟩ := hSw
          clear qb qz
          first | (go_simp; done) | (go_simp; with_reducible rfl)
        try simp only [Act.put, List.setIfInBounds_toArray, List.set_cons_zero, List.set_cons_succ]
        refine wpAnyH_take (i := 8) (oi := ⟨some 105, _, _, _, _, _⟩) (v := ?von68) rfl (by kernel_rfl) (by kernel_rfl) (by kernel_rfl) (fun _ _ _ h => h) (Or.inl ⟨by kernel_rfl, ?yon68⟩) (by assumption) ?ron68
        case yon68 =>
          intro w hSw
          obtain ⟨q0, q1, q2, q3, q4, q5, qb, qz⟩ := hSw
          clear qb qz
          first | (go_simp; done) | (go_simp; with_reducible rfl)
        try simp only [Act.put, List.setIfInBounds_toArray, List.set_cons_zero, List.set_cons_succ]
        refine wpAnyH_take (i := 9) (oi := ⟨some 106, _, _, _, _, _⟩) (v := ?von69) rfl (by kernel_rfl) (by kernel_rfl) (by kernel_rfl) (fun _ _ _ h => h) (Or.inl ⟨by kernel_rfl, ?yon69⟩) (by assumption) ?ron69
        case yon69 =>
          intro w hSw
          obtain ⟨q0, q1, q2, q3, q4, q5, qb, qz⟩ := hSw
          clear qb qz
          first | (go_simp; done) | (go_simp; with_reducible rfl)
        try simp only [Act.put, List.setIfInBounds_toArray, List.set_cons_zero, List.set_cons_succ]
        refine wpAnyH_take (i := 10) (oi := ⟨some 107, _, _, _, _, _⟩) (v := ?von610) rfl (by kernel_rfl) (by kernel_rfl) (by kernel_rfl) (fun _ _ _ h => h) (Or.inl ⟨by kernel_rfl, ?yon610⟩) (by assumption) ?ron610
        case yon610 =>
          intro w hSw
          obtain ⟨q0, q1, q2, q3, q4, q5, qb, qz⟩ := hSw
          clear qb qz
          first | (go_simp; done) | (go_simp; with_reducible rfl)
        try simp only [Act.put, List.setIfInBounds_toArray, List.set_cons_zero, List.set_cons_succ]
        refine wpAnyH_take (i := 11) (oi := ⟨some 108, _, _, _, _, _⟩) (v := undef) rfl (by kernel_rfl) (by kernel_rfl) (by kernel_rfl) (fun _ _ _ h => h) (Or.inr ⟨by kernel_rfl, rfl⟩) (by assumption) ?ron611
        try simp only [Act.put, List.setIfInBounds_toArray, List.set_cons_zero, List.set_cons_succ]
        refine wpAnyH_take (i := 12) (oi := ⟨some 109, _, _, _, _, _⟩) (v := undef) rfl (by kernel_rfl) (by kernel_rfl) (by kernel_rfl) (fun _ _ _ h => h) (Or.inr ⟨by kernel_rfl, rfl⟩) (by assumption) ?ron612
        try simp only [Act.put, List.setIfInBounds_toArray, List.set_cons_zero, List.set_cons_succ]
        refine wpAnyH_take (i := 13) (oi := ⟨some 110, _, _, _, _, _⟩) (v := undef) rfl (by kernel_rfl) (by kernel_rfl) (by kernel_rfl) (fun _ _ _ h => h) (Or.inr ⟨by kernel_rfl, rfl⟩) (by assumption) ?ron613
        try simp only [Act.put, List.setIfInBounds_toArray, List.set_cons_zero, List.set_cons_succ]
        refine wpAnyH_take (i := 14) (oi := ⟨some 111, _, _, _, _, _⟩) (v := undef) rfl (by kernel_rfl) (by kernel_rfl) (by kernel_rfl) (fun _ _ _ h => h) (Or.inr ⟨by kernel_rfl, rfl⟩) (by assumption) ?ron614
        try simp only [Act.put, List.setIfInBounds_toArray, List.set_cons_zero, List.set_cons_succ]
        refine wpAnyH_take (i := 15) (oi := ⟨some 112, _, _, _, _, _⟩) (v := undef) rfl (by kernel_rfl) (by kernel_rfl) (by kernel_rfl) (fun _ _ _ h => h) (Or.inr ⟨by kernel_rfl, rfl⟩) (by assumption) ?ron615
        try simp only [Act.put, List.setIfInBounds_toArray, List.set_cons_zero, List.set_cons_succ]
        refine wpAnyH_take (i := 16) (oi := ⟨some 113, _, _, _, _, _⟩) (v := undef) rfl (by kernel_rfl) (by kernel_rfl) (by kernel_rfl) (fun _ _ _ h => h) (Or.inr ⟨by kernel_rfl, rfl⟩) (by assumption) ?ron616
        try simp only [Act.put, List.setIfInBounds_toArray, List.set_cons_zero, List.set_cons_succ]
        refine wpAnyH_take (i := 17) (oi := ⟨some 114, _, _, _, _, _⟩) (v := ?von617) rfl (by kernel_rfl) (by kernel_rfl) (by kernel_rfl) (fun _ _ _ h => h) (Or.inl ⟨by kernel_rfl, ?yon617⟩) (by assumption) ?ron617
        case yon617 =>
          intro w hSw
          obtain ⟨q0, q1, q2, q3, q4, q5, qb, qz⟩ := hSw
          clear qb qz
          first | (go_simp; done) | (go_simp; with_reducible rfl)
        try simp only [Act.put, List.setIfInBounds_toArray, List.set_cons_zero, List.set_cons_succ]
        refine wpAnyH_take (i := 18) (oi := ⟨some 115, _, _, _, _, _⟩) (v := ?von618) rfl (by kernel_rfl) (by kernel_rfl) (by kernel_rfl) (fun _ _ _ h => h) (Or.inl ⟨by kernel_rfl, ?yon618⟩) (by assumption) ?ron618
        case yon618 =>
          intro w hSw
          obtain ⟨q0, q1, q2, q3, q4, q5, qb, qz⟩ := hSw
          clear qb qz
          first | (go_simp; done) | (go_simp; with_reducible rfl)
        try simp only [Act.put, List.setIfInBounds_toArray, List.set_cons_zero, List.set_cons_succ]
        refine wpAnyH_take (i := 19) (oi := ⟨some 2, _, _, _, _, _⟩) (v := ?von619) rfl (by kernel_rfl) (by kernel_rfl) (by kernel_rfl) (fun _ _ _ h => h) (Or.inl ⟨by kernel_rfl, ?yon619⟩) (by assumption) ?ron619
        case yon619 =>
          intro w hSw
          obtain ⟨q0, q1, q2, q3, q4, q5, qb, qz⟩ := hSw
          clear qb qz
          first | (go_simp; done) | (go_simp; with_reducible rfl)
        try simp only [Act.put, List.setIfInBounds_toArray, List.set_cons_zero, List.set_cons_succ]
        refine wpAnyH_done (by kernel_rfl) ?_ _
        have HZZ := Lib.hid hHeld.2.2.2.2.2.2.2
        go_wp2_with fail
        go_ret
        exact ⟨rfl, HZZ.out⟩
    · have hn0 := HNE.out hE
      have e1 : (E != 0) = true := by simpa using hE
      have e2 : (E == 0) = false := by simpa using hE
      have e3 : (N != 0) = false := by simp [hn0]
      clear hE hn0
      go_wp2_with fail
      refine wp_region_held_drew (S := fun w' => Held w' g (.int .i64 K) (.string A) (.string B) (.string C) bb (.bool s1) (.slice a1 n1 d1) N w) (by kernel_rfl) ?hSon70 (fun hHeld => ?_)
      case hSon70 => exact held_drew HY.out
      refine wpAnyH_take (i := 0) (oi := ⟨some 80, _, _, _, _, _⟩) (v := ?von70) rfl (by kernel_rfl) (by kernel_rfl) (by kernel_rfl) (fun _ _ _ h => h) (Or.inl ⟨by kernel_rfl, ?yon70⟩) (by assumption) ?ron70
      case yon70 =>
        intro w hSw
        obtain ⟨q0, q1, q2, q3, q4, q5, qb, qz⟩ := hSw
        clear qb qz
        first | (go_simp; done) | (go_simp; with_reducible rfl)
      try simp only [Act.put, List.setIfInBounds_toArray, List.set_cons_zero, List.set_cons_succ]
      refine wpAnyH_take (i := 1) (oi := ⟨some 81, _, _, _, _, _⟩) (v := ?von71) rfl (by kernel_rfl) (by kernel_rfl) (by kernel_rfl) (fun _ _ _ h => h) (Or.inl ⟨by kernel_rfl, ?yon71⟩) (by assumption) ?ron71
      case yon71 =>
        intro w hSw
        obtain ⟨q0, q1, q2, q3, q4, q5, qb, qz⟩ := hSw
        clear qb qz
        first | (go_simp; done) | (go_simp; with_reducible rfl)
      try simp only [Act.put, List.setIfInBounds_toArray, List.set_cons_zero, List.set_cons_succ]
      refine wpAnyH_take (i := 2) (oi := ⟨some 82, _, _, _, _, _⟩) (v := ?von72) rfl (by kernel_rfl) (by kernel_rfl) (by kernel_rfl) (fun _ _ _ h => h) (Or.inl ⟨by kernel_rfl, ?yon72⟩) (by assumption) ?ron72
      case yon72 =>
        intro w hSw
        obtain ⟨q0, q1, q2, q3, q4, q5, qb, qz⟩ := hSw
        clear qb qz
        first | (go_simp; done) | (go_simp; with_reducible rfl)
      try simp only [Act.put, List.setIfInBounds_toArray, List.set_cons_zero, List.set_cons_succ]
      refine wpAnyH_take (i := 3) (oi := ⟨some 83, _, _, _, _, _⟩) (v := ?von73) rfl (by kernel_rfl) (by kernel_rfl) (by kernel_rfl) (fun _ _ _ h => h) (Or.inl ⟨by kernel_rfl, ?yon73⟩) (by assumption) ?ron73
      case yon73 =>
        intro w hSw
        obtain ⟨q0, q1, q2, q3, q4, q5, qb, qz⟩ := hSw
        clear qb qz
        first | (go_simp; done) | (go_simp; with_reducible rfl)
      try simp only [Act.put, List.setIfInBounds_toArray, List.set_cons_zero, List.set_cons_succ]
      refine wpAnyH_take (i := 4) (oi := ⟨some 84, _, _, _, _, _⟩) (v := ?von74) rfl (by kernel_rfl) (by kernel_rfl) (by kernel_rfl) (fun _ _ _ h => h) (Or.inl ⟨by kernel_rfl, ?yon74⟩) (by assumption) ?ron74
      case yon74 =>
        intro w hSw
        obtain ⟨q0, q1, q2, q3, q4, q5, qb, qz⟩ := hSw
        clear qb qz
        first | (go_simp; done) | (go_simp; with_reducible rfl)
      try simp only [Act.put, List.setIfInBounds_toArray, List.set_cons_zero, List.set_cons_succ]
      refine wpAnyH_take (i := 5) (oi := ⟨some 85, _, _, _, _, _⟩) (v := ?von75) rfl (by kernel_rfl) (by kernel_rfl) (by kernel_rfl) (fun _ _ _ h => h) (Or.inl ⟨by kernel_rfl, ?yon75⟩) (by assumption) ?ron75
      case yon75 =>
        intro w hSw
        obtain ⟨q0, q1, q2, q3, q4, q5, qb, qz⟩ := hSw
        clear qb qz
        first | (go_simp; done) | (go_simp; with_reducible rfl)
      try simp only [Act.put, List.setIfInBounds_toArray, List.set_cons_zero, List.set_cons_succ]
      refine wpAnyH_take (i := 6) (oi := ⟨some 86, _, _, _, _, _⟩) (v := ?von76) rfl (by kernel_rfl) (by kernel_rfl) (by kernel_rfl) (fun _ _ _ h => h) (Or.inl ⟨by kernel_rfl, ?yon76⟩) (by assumption) ?ron76
      case yon76 =>
        intro w hSw
        obtain ⟨q0, q1, q2, q3, q4, q5, qb, qz⟩ := hSw
        clear qb qz
        first | (go_simp; done) | (go_simp; with_reducible rfl)
      try simp only [Act.put, List.setIfInBounds_toArray, List.set_cons_zero, List.set_cons_succ]
      refine wpAnyH_take (i := 7) (oi := ⟨some 87, _, _, _, _, _⟩) (v := ?von77) rfl (by kernel_rfl) (by kernel_rfl) (by kernel_rfl) (fun _ _ _ h => h) (Or.inl ⟨by kernel_rfl, ?yon77⟩) (by assumption) ?ron77
      case yon77 =>
        intro w hSw
        obtain ⟨q0, q1, q2, q3, q4, q5, qb, qz⟩ := hSw
        clear qb qz
        first | (go_simp; done) | (go_simp; with_reducible rfl)
      try simp only [Act.put, List.setIfInBounds_toArray, List.set_cons_zero, List.set_cons_succ]
      refine wpAnyH_take (i := 8) (oi := ⟨some 88, _, _, _, _, _⟩) (v := ?von78) rfl (by kernel_rfl) (by kernel_rfl) (by kernel_rfl) (fun _ _ _ h => h) (Or.inl ⟨by kernel_rfl, ?yon78⟩) (by assumption) ?ron78
      case yon78 =>
        intro w hSw
        obtain ⟨q0, q1, q2, q3, q4, q5, qb, qz⟩ := hSw
        clear qb qz
        first | (go_simp; done) | (go_simp; with_reducible rfl)
      try simp only [Act.put, List.setIfInBounds_toArray, List.set_cons_zero, List.set_cons_succ]
      refine wpAnyH_take (i := 9) (oi := ⟨some 89, _, _, _, _, _⟩) (v := ?von79) rfl (by kernel_rfl) (by kernel_rfl) (by kernel_rfl) (fun _ _ _ h => h) (Or.inl ⟨by kernel_rfl, ?yon79⟩) (by assumption) ?ron79
      case yon79 =>
        intro w hSw
        obtain ⟨q0, q1, q2, q3, q4, q5, qb, qz⟩ := hSw
        clear qb qz
        first | (go_simp; done) | (go_simp; with_reducible rfl)
      try simp only [Act.put, List.setIfInBounds_toArray, List.set_cons_zero, List.set_cons_succ]
      refine wpAnyH_take (i := 10) (oi := ⟨some 90, _, _, _, _, _⟩) (v := undef) rfl (by kernel_rfl) (by kernel_rfl) (by kernel_rfl) (fun _ _ _ h => h) (Or.inr ⟨by kernel_rfl, rfl⟩) (by assumption) ?ron710
      try simp only [Act.put, List.setIfInBounds_toArray, List.set_cons_zero, List.set_cons_succ]
      refine wpAnyH_take (i := 11) (oi := ⟨some 91, _, _, _, _, _⟩) (v := undef) rfl (by kernel_rfl) (by kernel_rfl) (by kernel_rfl) (fun _ _ _ h => h) (Or.inr ⟨by kernel_rfl, rfl⟩) (by assumption) ?ron711
      try simp only [Act.put, List.setIfInBounds_toArray, List.set_cons_zero, List.set_cons_succ]
      refine wpAnyH_take (i := 12) (oi := ⟨some 92, _, _, _, _, _⟩) (v := undef) rfl (by kernel_rfl) (by kernel_rfl) (by kernel_rfl) (fun _ _ _ h => h) (Or.inr ⟨by kernel_rfl, rfl⟩) (by assumption) ?ron712
      try simp only [Act.put, List.setIfInBounds_toArray, List.set_cons_zero, List.set_cons_succ]
      refine wpAnyH_take (i := 13) (oi := ⟨some 93, _, _, _, _, _⟩) (v := undef) rfl (by kernel_rfl) (by kernel_rfl) (by kernel_rfl) (fun _ _ _ h => h) (Or.inr ⟨by kernel_rfl, rfl⟩) (by assumption) ?ron713
      try simp only [Act.put, List.setIfInBounds_toArray, List.set_cons_zero, List.set_cons_succ]
      refine wpAnyH_take (i := 14) (oi := ⟨some 94, _, _, _, _, _⟩) (v := undef) rfl (by kernel_rfl) (by kernel_rfl) (by kernel_rfl) (fun _ _ _ h => h) (Or.inr ⟨by kernel_rfl, rfl⟩) (by assumption) ?ron714
      try simp only [Act.put, List.setIfInBounds_toArray, List.set_cons_zero, List.set_cons_succ]
      refine wpAnyH_take (i := 15) (oi := ⟨some 95, _, _, _, _, _⟩) (v := ?von715) rfl (by kernel_rfl) (by kernel_rfl) (by kernel_rfl) (fun _ _ _ h => h) (Or.inl ⟨by kernel_rfl, ?yon715⟩) (by assumption) ?ron715
      case yon715 =>
        intro w hSw
        obtain ⟨q0, q1, q2, q3, q4, q5, qb, qz⟩ := hSw
        clear qb qz
        first | (go_simp; done) | (go_simp; with_reducible rfl)
      try simp only [Act.put, List.setIfInBounds_toArray, List.set_cons_zero, List.set_cons_succ]
      refine wpAnyH_take (i := 16) (oi := ⟨some 96, _, _, _, _, _⟩) (v := ?von716) rfl (by kernel_rfl) (by kernel_rfl) (by kernel_rfl) (fun _ _ _ h => h) (Or.inl ⟨by kernel_rfl, ?yon716⟩) (by assumption) ?ron716
      case yon716 =>
        intro w hSw
        obtain ⟨q0, q1, q2, q3, q4, q5, qb, qz⟩ := hSw
        clear qb qz
        first | (go_simp; done) | (go_simp; with_reducible rfl)
      try simp only [Act.put, List.setIfInBounds_toArray, List.set_cons_zero, List.set_cons_succ]
      refine wpAnyH_done (by kernel_rfl) ?_ _
      replace HY := Lib.hid hHeld
      clear hHeld
      by_cases hk1 : K = 1
      · have MIK := Lib.hid (MI.out hk1)
        have q9 : (K != 1) = false := by simp [hk1]
        clear hk1
        go_wp2_with fail
        refine wp_region_held_drew (S := fun w' => Held w' g (.int .i64 K) (.string A) (.string B) (.string C) bb (.bool s1) (.slice a1 n1 d1) N w) (by kernel_rfl) ?hSon80 (fun hHeld => ?_)
        case hSon80 => exact held_drew HY.out
        refine wpAnyH_ready (rs := [0]) (by kernel_rfl) (by simp) ?_
        refine AllReadyH.cons (i := 0) (o := ⟨some 97, _, _, _, _, _⟩) rfl (fun K hK => ?_) AllReadyH.nil
        go_simp
        go_at_call 12
        refine (G0.out _ (HMV.out _ hHeld.2.2.2.2.2.2.2)).mono ?_
        rintro e wp ⟨rfl, hb⟩
        go_wp2_with fail
        refine hK.out _ _ ?_ (fun hHeld => ?_)
        · exact held_below (by assumption) hb
        clear hK K
        try simp only [Act.put, List.setIfInBounds_toArray, List.set_cons_zero, List.set_cons_succ]
        refine wpAnyH_take (i := 1) (oi := ⟨some 98, _, _, _, _, _⟩) (v := ?von81) rfl (by kernel_rfl) (by kernel_rfl) (by kernel_rfl) (fun _ _ _ h => h) (Or.inl ⟨by kernel_rfl, ?yon81⟩) (by assumption) ?ron81
        case yon81 =>
          intro w hSw
          obtain ⟨q0, q1, q2, q3, q4, q5, qb, qz⟩ := hSw
          clear qb qz
          first | (go_simp; done) | (go_simp; with_reducible rfl)
        try simp only [Act.put, List.setIfInBounds_toArray, List.set_cons_zero, List.set_cons_succ]
        refine wpAnyH_take (i := 2) (oi := ⟨some 99, _, _, _, _, _⟩) (v := ?von82) rfl (by kernel_rfl) (by kernel_rfl) (by kernel_rfl) (fun _ _ _ h => h) (Or.inl ⟨by kernel_rfl, ?yon82⟩) (by assumption) ?ron82
        case yon82 =>
          intro w hSw
          obtain ⟨q0, q1, q2, q3, q4, q5, qb, qz⟩ := hSw
          clear qb qz
          first | (go_simp; done) | (go_simp; with_reducible rfl)
        try simp only [Act.put, List.setIfInBounds_toArray, List.set_cons_zero, List.set_cons_succ]
        refine wpAnyH_ready (rs := [3]) (by kernel_rfl) (by simp) ?_
        refine AllReadyH.cons (i := 3) (o := ⟨some 100, _, _, _, _, _⟩) rfl (fun K hK => ?_) AllReadyH.nil
        go_simp
        go_at_call 14
        refine (K0.out _).mono ?_
        rintro e wp ⟨rfl, hb⟩
        go_wp2_with fail
        refine hK.out _ _ ?_ (fun hHeld => ?_)
        · exact held_below (by assumption) hb
        clear hK K
        try simp only [Act.put, List.setIfInBounds_toArray, List.set_cons_zero, List.set_cons_succ]
        refine wpAnyH_take (i := 4) (oi := ⟨some 101, _, _, _, _, _⟩) (v := ?von84) rfl (by kernel_rfl) (by kernel_rfl) (by kernel_rfl) (fun _ _ _ h => h) (Or.inl ⟨by kernel_rfl, ?yon84⟩) (by assumption) ?ron84
        case yon84 =>
          intro w hSw
          obtain ⟨q0, q1, q2, q3, q4, q5, qb, qz⟩ := hSw
          clear qb qz
          first | (go_simp; done) | (go_simp; with_reducible rfl)
        try simp only [Act.put, List.setIfInBounds_toArray, List.set_cons_zero, List.set_cons_succ]
        refine wpAnyH_take (i := 5) (oi := ⟨some 102, _, _, _, _, _⟩) (v := ?von85) rfl (by kernel_rfl) (by kernel_rfl) (by kernel_rfl) (fun _ _ _ h => h) (Or.inl ⟨by kernel_rfl, ?yon85⟩) (by assumption) ?ron85
        case yon85 =>
          intro w hSw
          obtain ⟨q0, q1, q2, q3, q4, q5, qb, qz⟩ := hSw
          clear qb qz
          first | (go_simp; done) | (go_simp; with_reducible rfl)
        try simp only [Act.put, List.setIfInBounds_toArray, List.set_cons_zero, List.set_cons_succ]
        refine wpAnyH_take (i := 6) (oi := ⟨some 103, _, _, _, _, _⟩) (v := ?von86) rfl (by kernel_rfl) (by kernel_rfl) (by kernel_rfl) (fun _ _ _ h => h) (Or.inl ⟨by kernel_rfl, ?yon86⟩) (by assumption) ?ron86
        case yon86 =>
          intro w hSw
          obtain ⟨q0, q1, q2, q3, q4, q5, qb, qz⟩ := hSw
          clear qb qz
          first | (go_simp; done) | (go_simp; with_reducible rfl)
        try simp only [Act.put, List.setIfInBounds_toArray, List.set_cons_zero, List.set_cons_succ]
        refine wpAnyH_take (i := 7) (oi := ⟨some 104, _, _, _, _, _⟩) (v := ?von87) rfl (by kernel_rfl) (by kernel_rfl) (by kernel_rfl) (fun _ _ _ h => h) (Or.inl ⟨by kernel_rfl, ?yon87⟩) (by assumption) ?ron87
        case yon87 =>
          intro w hSw
          obtain ⟨q0, q1, q2, q3, q4, q5, qb, qz⟩ := hSw
          clear qb qz
          first | (go_simp; done) | (go_simp; with_reducible rfl)
        try simp only [Act.put, List.setIfInBounds_toArray, List.set_cons_zero, List.set_cons_succ]
        refine wpAnyH_take (i := 8) (oi := ⟨some 105, _, _, _, _, _⟩) (v := ?von88) rfl (by kernel_rfl) (by kernel_rfl) (by kernel_rfl) (fun _ _ _ h => h) (Or.inl ⟨by kernel_rfl, ?yon88⟩) (by assumption) ?ron88
        case yon88 =>
          intro w hSw
          obtain ⟨q0, q1, q2, q3, q4, q5, qb, qz⟩ := hSw
          clear qb qz
          first | (go_simp; done) | (go_simp; with_reducible rfl)
        try simp only [Act.put, List.setIfInBounds_toArray, List.set_cons_zero, List.set_cons_succ]
        refine wpAnyH_take (i := 9) (oi := ⟨some 106, _, _, _, _, _⟩) (v := ?von89) rfl (by kernel_rfl) (by kernel_rfl) (by kernel_rfl) (fun _ _ _ h => h) (Or.inl ⟨by kernel_rfl, ?yon89⟩) (by assumption) ?ron89
        case yon89 =>
          intro w hSw
          obtain ⟨q0, q1, q2, q3, q4, q5, qb, qz⟩ := hSw
          clear qb qz
          first | (go_simp; done) | (go_simp; with_reducible rfl)
        try simp only [Act.put, List.setIfInBounds_toArray, List.set_cons_zero, List.set_cons_succ]
        refine wpAnyH_take (i := 10) (oi := ⟨some 107, _, _, _, _, _⟩) (v := ?von810) rfl (by kernel_rfl) (by kernel_rfl) (by kernel_rfl) (fun _ _ _ h => h) (Or.inl ⟨by kernel_rfl, ?yon810⟩) (by assumption) ?ron810
        case yon810 =>
          intro w hSw
          obtain ⟨q0, q1, q2, q3, q4, q5, qb, qz⟩ := hSw
          clear qb qz
          first | (go_simp; done) | (go_simp; with_reducible rfl)
        try simp only [Act.put, List.setIfInBounds_toArray, List.set_cons_zero, List.set_cons_succ]
        refine wpAnyH_take (i := 11) (oi := ⟨some 108, _, _, _, _, _⟩) (v := ?von811) rfl (by kernel_rfl) (by kernel_rfl) (by kernel_rfl) (fun _ _ _ h => h) (Or.inl ⟨by kernel_rfl, ?yon811⟩) (by assumption) ?ron811
        case yon811 =>
          intro w hSw
          obtain ⟨q0, q1, q2, q3, q4, q5, qb, qz⟩ := hSw
          clear qb qz
          first | (go_simp; done) | (go_simp; with_reducible rfl)
        try simp only [Act.put, List.setIfInBounds_toArray, List.set_cons_zero, List.set_cons_succ]
        refine wpAnyH_take (i := 14) (oi := ⟨some 111, _, _, _, _, _⟩) (v := ?von814) rfl (by kernel_rfl) (by kernel_rfl) (by kernel_rfl) (fun _ _ _ h => h) (Or.inl ⟨by kernel_rfl, ?yon814⟩) (by assumption) ?ron814
        case yon814 =>
          intro w hSw
          obtain ⟨q0, q1, q2, q3, q4, q5, qb, qz⟩ := hSw
          clear qb qz
          first | (go_simp; done) | (go_simp; with_reducible rfl)
        try simp only [Act.put, List.setIfInBounds_toArray, List.set_cons_zero, List.set_cons_succ]
        refine wpAnyH_take (i := 15) (oi := ⟨some 112, _, _, _, _, _⟩) (v := ?von815) rfl (by kernel_rfl) (by kernel_rfl) (by kernel_rfl) (fun _ _ _ h => h) (Or.inl ⟨by kernel_rfl, ?yon815⟩) (by assumption) ?ron815
        case yon815 =>
          intro w hSw
          obtain ⟨q0, q1, q2, q3, q4, q5, qb, qz⟩ := hSw
          clear qb qz
          first | (go_simp; done) | (go_simp; with_reducible rfl)
        try simp only [Act.put, List.setIfInBounds_toArray, List.set_cons_zero, List.set_cons_succ]
        refine wpAnyH_ready (rs := [12]) (by kernel_rfl) (by simp) ?_
        refine AllReadyH.cons (i := 12) (o := ⟨some 109, _, _, _, _, _⟩) rfl (fun K hK => ?_) AllReadyH.nil
        go_simp
        go_at_call 19
        refine (MIK.out _).mono ?_
        rintro e wp ⟨rfl, hb⟩
        go_wp2_with fail
        refine hK.out _ _ ?_ (fun hHeld => ?_)
        · exact held_below (by assumption) hb
        clear hK K
        try simp only [Act.put, List.setIfInBounds_toArray, List.set_cons_zero, List.set_cons_succ]
        refine wpAnyH_take (i := 13) (oi := ⟨some 110, _, _, _, _, _⟩) (v := ?von813) rfl (by kernel_rfl) (by kernel_rfl) (by kernel_rfl) (fun _ _ _ h => h) (Or.inl ⟨by kernel_rfl, ?yon813⟩) (by assumption) ?ron813
        case yon813 =>
          intro w hSw
          obtain ⟨q0, q1, q2, q3, q4, q5, qb, qz⟩ := hSw
          clear qb qz
          first | (go_simp; done) | (go_simp; with_reducible rfl)
        try simp only [Act.put, List.setIfInBounds_toArray, List.set_cons_zero, List.set_cons_succ]
        refine wpAnyH_take (i := 16) (oi := ⟨some 113, _, _, _, _, _⟩) (v := ?von816) rfl (by kernel_rfl) (by kernel_rfl) (by kernel_rfl) (fun _ _ _ h => h) (Or.inl ⟨by kernel_rfl, ?yon816⟩) (by assumption) ?ron816
        case yon816 =>
          intro w hSw
          obtain ⟨q0, q1, q2, q3, q4, q5, qb, qz⟩ := hSw
          clear qb qz
          first | (go_simp; done) | (go_simp; with_reducible rfl)
        try simp only [Act.put, List.setIfInBounds_toArray, List.set_cons_zero, List.set_cons_succ]
        refine wpAnyH_take (i := 17) (oi := ⟨some 114, _, _, _, _, _⟩) (v := ?von817) rfl (by kernel_rfl) (by kernel_rfl) (by kernel_rfl) (fun _ _ _ h => h) (Or.inl ⟨by kernel_rfl, ?yon817⟩) (by assumption) ?ron817
        case yon817 =>
          intro w hSw
          obtain ⟨q0, q1, q2, q3, q4, q5, qb, qz⟩ := hSw
          clear qb qz
          first | (go_simp; done) | (go_simp; with_reducible rfl)
        try simp only [Act.put, List.setIfInBounds_toArray, List.set_cons_zero, List.set_cons_succ]
        refine wpAnyH_take (i := 18) (oi := ⟨some 115, _, _, _, _, _⟩) (v := ?von818) rfl (by kernel_rfl) (by kernel_rfl) (by kernel_rfl) (fun _ _ _ h => h) (Or.inl ⟨by kernel_rfl, ?yon818⟩) (by assumption) ?ron818
        case yon818 =>
          intro w hSw
          obtain ⟨q0, q1, q2, q3, q4, q5, qb, qz⟩ := hSw
          clear qb qz
          first | (go_simp; done) | (go_simp; with_reducible rfl)
        try simp only [Act.put, List.setIfInBounds_toArray, List.set_cons_zero, List.set_cons_succ]
        refine wpAnyH_take (i := 19) (oi := ⟨some 2, _, _, _, _, _⟩) (v := ?von819) rfl (by kernel_rfl) (by kernel_rfl) (by kernel_rfl) (fun _ _ _ h => h) (Or.inl ⟨by kernel_rfl, ?yon819⟩) (by assumption) ?ron819
        case yon819 =>
          intro w hSw
          obtain ⟨q0, q1, q2, q3, q4, q5, qb, qz⟩ := hSw
          clear qb qz
          first | (go_simp; done) | (go_simp; with_reducible rfl)
        try simp only [Act.put, List.setIfInBounds_toArray, List.set_cons_zero, List.set_cons_succ]
        refine wpAnyH_done (by kernel_rfl) ?_ _
        have HZZ := Lib.hid hHeld.2.2.2.2.2.2.2
        go_wp2_with fail
        go_ret
        exact ⟨rfl, HZZ.out⟩
      · have q9 : (K != 1) = true := by simpa using hk1
        clear hk1
        go_wp2_with fail
        refine wp_region_held_drew (S := fun w' => Held w' g (.int .i64 K) (.string A) (.string B) (.string C) bb (.bool s1) (.slice a1 n1 d1) N w) (by kernel_rfl) ?hSon90 (fun hHeld => ?_)
        case hSon90 => exact held_drew HY.out
        refine wpAnyH_ready (rs := [0]) (by kernel_rfl) (by simp) ?_
        refine AllReadyH.cons (i := 0) (o := ⟨some 97, _, _, _, _, _⟩) rfl (fun K hK => ?_) AllReadyH.nil
        go_simp
        go_at_call 12
        refine (G0.out _ (HMV.out _ hHeld.2.2.2.2.2.2.2)).mono ?_
        rintro e wp ⟨rfl, hb⟩
        go_wp2_with fail
        refine hK.out _ _ ?_ (fun hHeld => ?_)
        · exact held_below (by assumption) hb
        clear hK K
        try simp only [Act.put, List.setIfInBounds_toArray, List.set_cons_zero, List.set_cons_succ]
        refine wpAnyH_take (i := 1) (oi := ⟨some 98, _, _, _, _, _⟩) (v := ?von91) rfl (by kernel_rfl) (by kernel_rfl) (by kernel_rfl) (fun _ _ _ h => h) (Or.inl ⟨by kernel_rfl, ?yon91⟩) (by assumption) ?ron91
        case yon91 =>
          intro w hSw
          obtain ⟨q0, q1, q2, q3, q4, q5, qb, qz⟩ := hSw
          clear qb qz
          first | (go_simp; done) | (go_simp; with_reducible rfl)
        try simp only [Act.put, List.setIfInBounds_toArray, List.set_cons_zero, List.set_cons_succ]
        refine wpAnyH_take (i := 2) (oi := ⟨some 99, _, _, _, _, _⟩) (v := ?von92) rfl (by kernel_rfl) (by kernel_rfl) (by kernel_rfl) (fun _ _ _ h => h) (Or.inl ⟨by kernel_rfl, ?yon92⟩) (by assumption) ?ron92
        case yon92 =>
          intro w hSw
          obtain ⟨q0, q1, q2, q3, q4, q5, qb, qz⟩ := hSw
          clear qb qz
          first | (go_simp; done) | (go_simp; with_reducible rfl)
        try simp only [Act.put, List.setIfInBounds_toArray, List.set_cons_zero, List.set_cons_succ]
        refine wpAnyH_ready (rs := [3]) (by kernel_rfl) (by simp) ?_
        refine AllReadyH.cons (i := 3) (o := ⟨some 100, _, _, _, _, _⟩) rfl (fun K hK => ?_) AllReadyH.nil
        go_simp
        go_at_call 14
        refine (K0.out _).mono ?_
        rintro e wp ⟨rfl, hb⟩
        go_wp2_with fail
        refine hK.out _ _ ?_ (fun hHeld => ?_)
        · exact held_below (by assumption) hb
        clear hK K
        try simp only [Act.put, List.setIfInBounds_toArray, List.set_cons_zero, List.set_cons_succ]
        refine wpAnyH_take (i := 4) (oi := ⟨some 101, _, _, _, _, _⟩) (v := ?von94) rfl (by kernel_rfl) (by kernel_rfl) (by kernel_rfl) (fun _ _ _ h => h) (Or.inl ⟨by kernel_rfl, ?yon94⟩) (by assumption) ?ron94
        case yon94 =>
          intro w hSw
          obtain ⟨q0, q1, q2, q3, q4, q5, qb, qz⟩ := hSw
          clear qb qz
          first | (go_simp; done) | (go_simp; with_reducible rfl)
        try simp only [Act.put, List.setIfInBounds_toArray, List.set_cons_zero, List.set_cons_succ]
        refine wpAnyH_take (i := 5) (oi := ⟨some 102, _, _, _, _, _⟩) (v := ?von95) rfl (by kernel_rfl) (by kernel_rfl) (by kernel_rfl) (fun _ _ _ h => h) (Or.inl ⟨by kernel_rfl, ?yon95⟩) (by assumption) ?ron95
        case yon95 =>
          intro w hSw
          obtain ⟨q0, q1, q2, q3, q4, q5, qb, qz⟩ := hSw
          clear qb qz
          first | (go_simp; done) | (go_simp; with_reducible rfl)
        try simp only [Act.put, List.setIfInBounds_toArray, List.set_cons_zero, List.set_cons_succ]
        refine wpAnyH_take (i := 6) (oi := ⟨some 103, _, _, _, _, _⟩) (v := ?von96) rfl (by kernel_rfl) (by kernel_rfl) (by kernel_rfl) (fun _ _ _ h => h) (Or.inl ⟨by kernel_rfl, ?yon96⟩) (by assumption) ?ron96
        case yon96 =>
          intro w hSw
          obtain ⟨q0, q1, q2, q3, q4, q5, qb, qz⟩ := hSw
          clear qb qz
          first | (go_simp; done) | (go_simp; with_reducible rfl)
        try simp only [Act.put, List.setIfInBounds_toArray, List.set_cons_zero, List.set_cons_succ]
        refine wpAnyH_take (i := 7) (oi := ⟨some 104, _, _, _, _, _⟩) (v := ?von97) rfl (by kernel_rfl) (by kernel_rfl) (by kernel_rfl) (fun _ _ _ h => h) (Or.inl ⟨by kernel_rfl, ?yon97⟩) (by assumption) ?ron97
        case yon97 =>
          intro w hSw
          obtain ⟨q0, q1, q2, q3, q4, q5, qb, qz⟩ := hSw
          clear qb qz
          first | (go_simp; done) | (go_simp; with_reducible rfl)
        try simp only [Act.put, List.setIfInBounds_toArray, List.set_cons_zero, List.set_cons_succ]
        refine wpAnyH_take (i := 8) (oi := ⟨some 105, _, _, _, _, _⟩) (v := ?von98) rfl (by kernel_rfl) (by kernel_rfl) (by kernel_rfl) (fun _ _ _ h => h) (Or.inl ⟨by kernel_rfl, ?yon98⟩) (by assumption) ?ron98
        case yon98 =>
          intro w hSw
          obtain ⟨q0, q1, q2, q3, q4, q5, qb, qz⟩ := hSw
          clear qb qz
          first | (go_simp; done) | (go_simp; with_reducible rfl)
        try simp only [Act.put, List.setIfInBounds_toArray, List.set_cons_zero, List.set_cons_succ]
        refine wpAnyH_take (i := 9) (oi := ⟨some 106, _, _, _, _, _⟩) (v := ?von99) rfl (by kernel_rfl) (by kernel_rfl) (by kernel_rfl) (fun _ _ _ h => h) (Or.inl ⟨by kernel_rfl, ?yon99⟩) (by assumption) ?ron99
        case yon99 =>
          intro w hSw
          obtain ⟨q0, q1, q2, q3, q4, q5, qb, qz⟩ := hSw
          clear qb qz
          first | (go_simp; done) | (go_simp; with_reducible rfl)
        try simp only [Act.put, List.setIfInBounds_toArray, List.set_cons_zero, List.set_cons_succ]
        refine wpAnyH_take (i := 10) (oi := ⟨some 107, _, _, _, _, _⟩) (v := ?von910) rfl (by kernel_rfl) (by kernel_rfl) (by kernel_rfl) (fun _ _ _ h => h) (Or.inl ⟨by kernel_rfl, ?yon910⟩) (by assumption) ?ron910
        case yon910 =>
          intro w hSw
          obtain ⟨q0, q1, q2, q3, q4, q5, qb, qz⟩ := hSw
          clear qb qz
          first | (go_simp; done) | (go_simp; with_reducible rfl)
        try simp only [Act.put, List.setIfInBounds_toArray, List.set_cons_zero, List.set_cons_succ]
        refine wpAnyH_take (i := 11) (oi := ⟨some 108, _, _, _, _, _⟩) (v := undef) rfl (by kernel_rfl) (by kernel_rfl) (by kernel_rfl) (fun _ _ _ h => h) (Or.inr ⟨by kernel_rfl, rfl⟩) (by assumption) ?ron911
        try simp only [Act.put, List.setIfInBounds_toArray, List.set_cons_zero, List.set_cons_succ]
        refine wpAnyH_take (i := 12) (oi := ⟨some 109, _, _, _, _, _⟩) (v := undef) rfl (by kernel_rfl) (by kernel_rfl) (by kernel_rfl) (fun _ _ _ h => h) (Or.inr ⟨by kernel_rfl, rfl⟩) (by assumption) ?ron912
        try simp only [Act.put, List.setIfInBounds_toArray, List.set_cons_zero, List.set_cons_succ]
        refine wpAnyH_take (i := 13) (oi := ⟨some 110, _, _, _, _, _⟩) (v := undef) rfl (by kernel_rfl) (by kernel_rfl) (by kernel_rfl) (fun _ _ _ h => h) (Or.inr ⟨by kernel_rfl, rfl⟩) (by assumption) ?ron913
        try simp only [Act.put, List.setIfInBounds_toArray, List.set_cons_zero, List.set_cons_succ]
        refine wpAnyH_take (i := 14) (oi := ⟨some 111, _, _, _, _, _⟩) (v := undef) rfl (by kernel_rfl) (by kernel_rfl) (by kernel_rfl) (fun _ _ _ h => h) (Or.inr ⟨by kernel_rfl, rfl⟩) (by assumption) ?ron914
        try simp only [Act.put, List.setIfInBounds_toArray, List.set_cons_zero, List.set_cons_succ]
        refine wpAnyH_take (i := 15) (oi := ⟨some 112, _, _, _, _, _⟩) (v := undef) rfl (by kernel_rfl) (by kernel_rfl) (by kernel_rfl) (fun _ _ _ h => h) (Or.inr ⟨by kernel_rfl, rfl⟩) (by assumption) ?ron915
        try simp only [Act.put, List.setIfInBounds_toArray, List.set_cons_zero, List.set_cons_succ]
        refine wpAnyH_take (i := 16) (oi := ⟨some 113, _, _, _, _, _⟩) (v := undef) rfl (by kernel_rfl) (by kernel_rfl) (by kernel_rfl) (fun _ _ _ h => h) (Or.inr ⟨by kernel_rfl, rfl⟩) (by assumption) ?ron916
        try simp only [Act.put, List.setIfInBounds_toArray, List.set_cons_zero, List.set_cons_succ]
        refine wpAnyH_take (i := 17) (oi := ⟨some 114, _, _, _, _, _⟩) (v := ?von917) rfl (by kernel_rfl) (by kernel_rfl) (by kernel_rfl) (fun _ _ _ h => h) (Or.inl ⟨by kernel_rfl, ?yon917⟩) (by assumption) ?ron917
        case yon917 =>
          intro w hSw
          obtain ⟨q0, q1, q2, q3, q4, q5, qb, qz⟩ := hSw
          clear qb qz
          first | (go_simp; done) | (go_simp; with_reducible rfl)
        try simp only [Act.put, List.setIfInBounds_toArray, List.set_cons_zero, List.set_cons_succ]
        refine wpAnyH_take (i := 18) (oi := ⟨some 115, _, _, _, _, _⟩) (v := ?von918) rfl (by kernel_rfl) (by kernel_rfl) (by kernel_rfl) (fun _ _ _ h => h) (Or.inl ⟨by kernel_rfl, ?yon918⟩) (by assumption) ?ron918
        case yon918 =>
          intro w hSw
          obtain ⟨q0, q1, q2, q3, q4, q5, qb, qz⟩ := hSw
          clear qb qz
          first | (go_simp; done) | (go_simp; with_reducible rfl)
        try simp only [Act.put, List.setIfInBounds_toArray, List.set_cons_zero, List.set_cons_succ]
        refine wpAnyH_take (i := 19) (oi := ⟨some 2, _, _, _, _, _⟩) (v := ?von919) rfl (by kernel_rfl) (by kernel_rfl) (by kernel_rfl) (fun _ _ _ h => h) (Or.inl ⟨by kernel_rfl, ?yon919⟩) (by assumption) ?ron919
        case yon919 =>
          intro w hSw
          obtain ⟨q0, q1, q2, q3, q4, q5, qb, qz⟩ := hSw
          clear qb qz
          first | (go_simp; done) | (go_simp; with_reducible rfl)
        try simp only [Act.put, List.setIfInBounds_toArray, List.set_cons_zero, List.set_cons_succ]
        refine wpAnyH_done (by kernel_rfl) ?_ _
        have HZZ := Lib.hid hHeld.2.2.2.2.2.2.2
        go_wp2_with fail
        go_ret
        exact ⟨rfl, HZZ.out⟩
end Go.Proofs.YteeajhnbifpklaaGreatDoor
