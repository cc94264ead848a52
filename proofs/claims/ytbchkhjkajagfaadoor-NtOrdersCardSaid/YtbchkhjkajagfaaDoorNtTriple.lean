/- Contract over this seat's program: package nt's triple. -/
import Derived.Test.YtbchkhjkajagfaaDoorNtSubj
namespace Go.Proofs.YtbchkhjkajagfaaDoor
open Go Go.RowKit
set_option linter.unusedVariables false
set_option linter.unusedSimpArgs false
set_option maxRecDepth 100000
/-- how far the loop over the three places has come: the place, the terms -/
inductive Tg (G : Tm → Bool) (l : List Int) (p : Nat) : Nat → Nat → Value → Value → Value → Prop
  | zero : Tg G l p 0 p .nilIface .nilIface .nilIface
  | one (X : Tm) (q : Nat) (h1 : placeT G maySub l p = (some X, q, 0)) : Tg G l p 1 q (tmV X) .nilIface .nilIface
  | two (X Y : Tm) (q1 q : Nat) (h1 : placeT G maySub l p = (some X, q1, 0)) (h2 : placeT G mayPrd l q1 = (some Y, q, 0)) : Tg G l p 2 q (tmV X) (tmV Y) .nilIface
  | three (X Y Z : Tm) (q1 q2 q : Nat) (h1 : placeT G maySub l p = (some X, q1, 0)) (h2 : placeT G mayPrd l q1 = (some Y, q2, 0)) (h3 : placeT G mayAny l q2 = (some Z, q, 0)) : Tg G l p 3 q (tmV X) (tmV Y) (tmV Z)
def triR : Option Tri → Value
  | some t => triV t
  | none => .agg #[.nilIface, .nilIface, .nilIface]
def TripleEnd (l : List Int) (X g cap : Nat) (w : World) (R : Option Tri × Nat × Int) (e : Ending) (w' : World) : Prop :=
  ∃ q, e = .returned (.tuple #[triR R.1, .int .i64 (if R.1.isSome then 0 else R.2.1), .int .i64 R.2.2]) ∧ (R.1.isSome = true → q = R.2.1) ∧ ScW l q X g cap w' ∧ SK X w w'
theorem three_new (w : World) (c0 c1 c2 : Array Value) (t0 t1 t2 : TypeId) : (((w.alloc (.cells c0 t0)).alloc (.cells c1 t1)).alloc (.cells c2 t2)).heap[w.heap.size]? = some (.cells c0 t0 (0, 0)) ∧ (((w.alloc (.cells c0 t0)).alloc (.cells c1 t1)).alloc (.cells c2 t2)).heap[w.heap.size + 1]? = some (.cells c1 t1 (0, 0)) ∧ (((w.alloc (.cells c0 t0)).alloc (.cells c1 t1)).alloc (.cells c2 t2)).heap[w.heap.size + 1 + 1]? = some (.cells c2 t2 (0, 0)) := by
  have b1 : ∀ (w : World) o, Below w.heap.size w (w.alloc o) := fun w o => (Below.refl _ _).alloc (Nat.le_refl _) o
  have h0 := blk_below (blk_below (blk_new w c0 t0) (b1 _ (.cells c1 t1))) (b1 _ (.cells c2 t2))
  have h1 := blk_below (blk_new (w.alloc (.cells c0 t0)) c1 t1) (b1 _ (.cells c2 t2))
  have h2 := blk_new ((w.alloc (.cells c0 t0)).alloc (.cells c1 t1)) c2 t2
  have e1 : (w.alloc (.cells c0 t0)).heap.size = w.heap.size + 1 := by simp
  have e2 : ((w.alloc (.cells c0 t0)).alloc (.cells c1 t1)).heap.size = w.heap.size + 1 + 1 := by simp
  rw [e1] at h1
  rw [e2] at h2
  exact ⟨h0, h1, h2⟩
/-- the three blocks of the call's own -/
def Bx (w : World) (V0 V1 V2 : Value) (w' : World) : Prop :=
  w'.heap[w.heap.size]? = some (.cells #[.nilIface, .nilIface, .nilIface] 62 (0, 0)) ∧ w'.heap[w.heap.size + 1]? = some (.cells #[V0, V1, V2] 132 (0, 0)) ∧
  w'.heap[w.heap.size + 1 + 1]? = some (.cells #[.func (.func 57) #[] #[], .func (.func 58) #[] #[], .func (.func 36) #[] #[]] 84 (0, 0))
theorem Bx.sk {w w1 w2 : World} {V0 V1 V2 : Value} {X : Nat} (h : Bx w V0 V1 V2 w1) (hX : X < w.heap.size) (hk : SK X w1 w2) : Bx w V0 V1 V2 w2 := by
  obtain ⟨h1, h2, h3⟩ := h
  exact ⟨(hk.2 _ (lt_blk h1) (by omega)).trans h1, (hk.2 _ (lt_blk h2) (by omega)).trans h2, (hk.2 _ (lt_blk h3) (by omega)).trans h3⟩
theorem Bx.set {w w1 : World} {V0 V1 V2 : Value} (h : Bx w V0 V1 V2 w1) (i : Nat) (v : Value) {U0 U1 U2 : Value} (hu : (#[V0, V1, V2] : Array Value).setIfInBounds i v = #[U0, U1, U2]) : Bx w U0 U1 U2 (w1.setCell ⟨w.heap.size + 1, i, none⟩ v) := by
  obtain ⟨h1, h2, h3⟩ := h
  refine ⟨blk_other h1 (by show w.heap.size ≠ w.heap.size + 1; omega), ?_, blk_other h3 (by show w.heap.size + 1 + 1 ≠ w.heap.size + 1; omega)⟩
  rw [set_at h2, hu]
set_option maxHeartbeats 6400000 in
theorem triple_any {G : Tm → Bool} (hG : GoodFn G) {l : List Int} {p X g cap : Nat} {w : World} (h : ScW l p X g cap w) (he : Env X w) (hl : Signs l) (hb : l.length ≤ 100000) :
    Calls Tryd.prog 45 #[.pointer (some ⟨X, 0, none⟩)] w (TripleEnd l X g cap w (tripleT G l p)) := by
  have HS := Lib.hid (Sn.refl h)
  have HXW := Lib.hid h.lt
  have HGW := Lib.hid h.2.2.2.2.2
  have HL := Lib.hid hl
  have HLB := Lib.hid hb
  have hsm : ∀ q Y j, formT l q = (some Y, j) → Small Y := fun q Y j hf => (form_facts hl hb hf).2.2.1
  have HP0 := Lib.hid (fun w2 q (h1 : Sn l q X g cap w w2) => place_sub hG maySub h1.1 (he.sk h1.2).1 he.2.1 hl hb (hsm q) (fun w' hk => (he.sk (h1.2.trans hk)).max) (fun Y j c w' hr hk => by
    have hf := read_facts hl hb hr
    have h2 := subject_any hG hf.2.2.2.1 (w := w') (he.sk (h1.2.trans hk)).max
    rw [show subG G Y = maySub Y from by unfold subG maySub; rw [hf.2.2.2.2.2]; rfl] at h2
    exact h2))
  have HP1 := Lib.hid (fun w2 q (h1 : Sn l q X g cap w w2) => place_prd hG mayPrd h1.1 (he.sk h1.2).1 he.2.1 hl hb (hsm q) (fun w' hk => (he.sk (h1.2.trans hk)).max) (fun Y j c w' hr hk => by
    have hf := read_facts hl hb hr
    have h2 := predicate_any hG hf.2.2.2.1 (w := w') (he.sk (h1.2.trans hk)).max
    rw [show prdG G Y = mayPrd Y from by unfold prdG mayPrd; rw [hf.2.2.2.2.2]; rfl] at h2
    exact h2))
  have HP2 := Lib.hid (fun w2 q (h1 : Sn l q X g cap w w2) => place_good hG mayAny h1.1 (he.sk h1.2).1 he.2.1 hl hb (hsm q) (fun w' hk => (he.sk (h1.2.trans hk)).max) (fun Y j c w' hr hk => by
    have hf := read_facts hl hb hr
    have h2 := (hG Y hf.2.2.2.1).1 w' (he.sk (h1.2.trans hk)).max
    rw [hf.2.2.2.2.2] at h2
    exact h2))
  have HGF := Lib.hid hG
  obtain ⟨R, hR⟩ : ∃ R, R = tripleT G l p := ⟨_, rfl⟩
  rw [← hR]
  have HR := Lib.hid hR
  have hb6 : l.length ≤ 1000000 := by omega
  clear hR h he hl hsm hb hG
  go_enter Tryd.func45, Tryd.ntmps45
  go_wp2_with fail
  go_loopw [13] (fun i wr => ∃ (k q : Nat) (V0 V1 V2 : Value), i = .int .i64 k ∧ Hid (Tg G l p k q V0 V1 V2) ∧ Hid (Sn l q X g cap w wr ∧ Bx w V0 V1 V2 wr)) (fun i _ => 3 - (intOf i).toNat)
  case atStart =>
    refine ⟨0, p, _, _, _, rfl, Lib.hid .zero, Lib.hid ⟨((HS.out.below ((Below.refl _ _).alloc (Nat.le_refl _) _)).below ((Below.refl _ _).alloc (Nat.le_refl _) _)).below ((Below.refl _ _).alloc (Nat.le_refl _) _), ?_⟩⟩
    exact three_new w _ _ _ _ _ _
  case round =>
    obtain ⟨k, q, V0, V1, V2, rfl, HT, HC⟩ := hrel
    cases HT.out with
    | zero =>
      rw [show ((0 : Nat) : Int) = 0 from rfl]
      clear HT
      obtain ⟨f0, f1, f2, f3⟩ := blk3 HC.out.2.2.2
      obtain ⟨o, j, c, hr⟩ : ∃ o j c, placeT G maySub l p = (o, j, c) := ⟨_, _, _, rfl⟩
      have HPL := Lib.hid (HP0.out _ p HC.out.1)
      rw [hr] at HPL
      unfold PlaceEnd at HPL
      dsimp only at HPL
      have HTR := Lib.hid (True.intro)
      have HRD := Lib.hid hr
      have HB0 := Lib.hid HC.out.2
      clear hr
      cases o with
      | none =>
        dsimp only at HPL
        have hc0 : c ≠ 0 := place_code HRD.out
        have t1 : (c != 0) = true := by simpa using hc0
        have HRR : Hid (R = (none, j, c)) := Lib.hid (by rw [HR.out]; unfold tripleT; skip; rw [HRD.out])
        clear hc0
        go_wp2_with fail
        refine HPL.out.mono ?_
        rintro e w2 ⟨rfl, ⟨q', hs2, -⟩, hk2⟩
        have HS2 : Hid (Sn l q' X g cap w w2) := Lib.hid ⟨hs2, HC.out.1.2.trans hk2⟩
        have HB2 := Lib.hid (HB0.out.sk HXW.out hk2)
        obtain ⟨z0, z1, z2, z3⟩ := blk3 HB2.out.1
        have fz := z3 0
        have fz1 := z3 1
        have fz2 := z3 2
        clear hs2 hk2 f0 f1 f2 f3 z3
        go_wp2_with fail
        refine bodyPost_ret (v := .tuple #[.agg #[.nilIface, .nilIface, .nilIface], .int .i64 j, .int .i64 c]) (by simp [results, Tryd.results45, go_sem, World.cell?_setCell_same, World.cell?_setCell_other, z0, z1, z2]) rfl ?_
        rw [HRR.out]
        have HF := (((HS2.out.set (a := ⟨w.heap.size, 0, none⟩) (Nat.le_refl _) HXW.out HGW.out .nilIface).set (a := ⟨w.heap.size, 1, none⟩) (Nat.le_refl _) HXW.out HGW.out .nilIface).set (a := ⟨w.heap.size, 2, none⟩) (Nat.le_refl _) HXW.out HGW.out .nilIface)
        exact ⟨q', rfl, fun h => (by cases h), HF.1, HF.2⟩
      | some Y =>
        dsimp only at HPL
        have hpf := place_facts HL.out HLB.out HRD.out
        have hc0 : c = 0 := hpf.1
        subst hc0
        obtain ⟨TT, YY, eY⟩ := key_iface (good_signs HGF.out hpf.2.2.2.1 hpf.2.2.2.2.2.1).1
        rw [eY] at HPL
        have HE := Lib.hid eY
        clear eY hpf
        go_wp2_with fail
        refine HPL.out.mono ?_
        rintro e w2 ⟨rfl, ⟨q', hs2, hq2⟩, hk2⟩
        obtain rfl := hq2 rfl
        have HS2 : Hid (Sn l _ X g cap w w2) := Lib.hid ⟨hs2, HC.out.1.2.trans hk2⟩
        have HB2 := Lib.hid (HB0.out.sk HXW.out hk2)
        obtain ⟨z0, z1, z2, z3⟩ := blk3 HB2.out.2.1
        have fz := z3 0
        clear hs2 hk2 f0 f1 f2 f3 hq2 z3
        go_wp2_with fail
        go_round
        case measure => simp [intOf]
        case rel =>
          refine ⟨0 + 1, _, .iface TT YY, .nilIface, .nilIface, rfl, Lib.hid (by rw [← HE.out]; exact .one Y _ HRD.out), Lib.hid ⟨HS2.out.set (by show w.heap.size ≤ w.heap.size + 1; omega) HXW.out HGW.out _, HB2.out.set 0 _ rfl⟩⟩
    | one X0 _ h1 =>
      rw [show ((1 : Nat) : Int) = 1 from rfl]
      have H1 := Lib.hid h1
      clear HT h1
      obtain ⟨f0, f1, f2, f3⟩ := blk3 HC.out.2.2.2
      obtain ⟨o, j, c, hr⟩ : ∃ o j c, placeT G mayPrd l q = (o, j, c) := ⟨_, _, _, rfl⟩
      have HPL := Lib.hid (HP1.out _ q HC.out.1)
      rw [hr] at HPL
      unfold PlaceEnd at HPL
      dsimp only at HPL
      have HTR := Lib.hid (True.intro)
      have HRD := Lib.hid hr
      have HB0 := Lib.hid HC.out.2
      clear hr
      cases o with
      | none =>
        dsimp only at HPL
        have hc0 : c ≠ 0 := place_code HRD.out
        have t1 : (c != 0) = true := by simpa using hc0
        have HRR : Hid (R = (none, j, c)) := Lib.hid (by rw [HR.out]; unfold tripleT; rw [H1.out]; dsimp only; rw [HRD.out])
        clear hc0
        go_wp2_with fail
        refine HPL.out.mono ?_
        rintro e w2 ⟨rfl, ⟨q', hs2, -⟩, hk2⟩
        have HS2 : Hid (Sn l q' X g cap w w2) := Lib.hid ⟨hs2, HC.out.1.2.trans hk2⟩
        have HB2 := Lib.hid (HB0.out.sk HXW.out hk2)
        obtain ⟨z0, z1, z2, z3⟩ := blk3 HB2.out.1
        have fz := z3 0
        have fz1 := z3 1
        have fz2 := z3 2
        clear hs2 hk2 f0 f1 f2 f3 z3
        go_wp2_with fail
        refine bodyPost_ret (v := .tuple #[.agg #[.nilIface, .nilIface, .nilIface], .int .i64 j, .int .i64 c]) (by simp [results, Tryd.results45, go_sem, World.cell?_setCell_same, World.cell?_setCell_other, z0, z1, z2]) rfl ?_
        rw [HRR.out]
        have HF := (((HS2.out.set (a := ⟨w.heap.size, 0, none⟩) (Nat.le_refl _) HXW.out HGW.out .nilIface).set (a := ⟨w.heap.size, 1, none⟩) (Nat.le_refl _) HXW.out HGW.out .nilIface).set (a := ⟨w.heap.size, 2, none⟩) (Nat.le_refl _) HXW.out HGW.out .nilIface)
        exact ⟨q', rfl, fun h => (by cases h), HF.1, HF.2⟩
      | some Y =>
        dsimp only at HPL
        have hpf := place_facts HL.out HLB.out HRD.out
        have hc0 : c = 0 := hpf.1
        subst hc0
        obtain ⟨TT, YY, eY⟩ := key_iface (good_signs HGF.out hpf.2.2.2.1 hpf.2.2.2.2.2.1).1
        rw [eY] at HPL
        have HE := Lib.hid eY
        clear eY hpf
        go_wp2_with fail
        refine HPL.out.mono ?_
        rintro e w2 ⟨rfl, ⟨q', hs2, hq2⟩, hk2⟩
        obtain rfl := hq2 rfl
        have HS2 : Hid (Sn l _ X g cap w w2) := Lib.hid ⟨hs2, HC.out.1.2.trans hk2⟩
        have HB2 := Lib.hid (HB0.out.sk HXW.out hk2)
        obtain ⟨z0, z1, z2, z3⟩ := blk3 HB2.out.2.1
        have fz := z3 1
        clear hs2 hk2 f0 f1 f2 f3 hq2 z3
        go_wp2_with fail
        go_round
        case measure => simp [intOf]
        case rel =>
          refine ⟨1 + 1, _, tmV X0, .iface TT YY, .nilIface, rfl, Lib.hid (by rw [← HE.out]; exact .two X0 Y q _ H1.out HRD.out), Lib.hid ⟨HS2.out.set (by show w.heap.size ≤ w.heap.size + 1; omega) HXW.out HGW.out _, HB2.out.set 1 _ rfl⟩⟩
    | two X0 X1 q1 _ h1 h2 =>
      rw [show ((2 : Nat) : Int) = 2 from rfl]
      have H1 := Lib.hid h1
      have H2 := Lib.hid h2
      clear HT h1 h2
      obtain ⟨f0, f1, f2, f3⟩ := blk3 HC.out.2.2.2
      obtain ⟨o, j, c, hr⟩ : ∃ o j c, placeT G mayAny l q = (o, j, c) := ⟨_, _, _, rfl⟩
      have HPL := Lib.hid (HP2.out _ q HC.out.1)
      rw [hr] at HPL
      unfold PlaceEnd at HPL
      dsimp only at HPL
      have HTR := Lib.hid (True.intro)
      have HRD := Lib.hid hr
      have HB0 := Lib.hid HC.out.2
      clear hr
      cases o with
      | none =>
        dsimp only at HPL
        have hc0 : c ≠ 0 := place_code HRD.out
        have t1 : (c != 0) = true := by simpa using hc0
        have HRR : Hid (R = (none, j, c)) := Lib.hid (by rw [HR.out]; unfold tripleT; rw [H1.out]; dsimp only; rw [H2.out]; dsimp only; rw [HRD.out])
        clear hc0
        go_wp2_with fail
        refine HPL.out.mono ?_
        rintro e w2 ⟨rfl, ⟨q', hs2, -⟩, hk2⟩
        have HS2 : Hid (Sn l q' X g cap w w2) := Lib.hid ⟨hs2, HC.out.1.2.trans hk2⟩
        have HB2 := Lib.hid (HB0.out.sk HXW.out hk2)
        obtain ⟨z0, z1, z2, z3⟩ := blk3 HB2.out.1
        have fz := z3 0
        have fz1 := z3 1
        have fz2 := z3 2
        clear hs2 hk2 f0 f1 f2 f3 z3
        go_wp2_with fail
        refine bodyPost_ret (v := .tuple #[.agg #[.nilIface, .nilIface, .nilIface], .int .i64 j, .int .i64 c]) (by simp [results, Tryd.results45, go_sem, World.cell?_setCell_same, World.cell?_setCell_other, z0, z1, z2]) rfl ?_
        rw [HRR.out]
        have HF := (((HS2.out.set (a := ⟨w.heap.size, 0, none⟩) (Nat.le_refl _) HXW.out HGW.out .nilIface).set (a := ⟨w.heap.size, 1, none⟩) (Nat.le_refl _) HXW.out HGW.out .nilIface).set (a := ⟨w.heap.size, 2, none⟩) (Nat.le_refl _) HXW.out HGW.out .nilIface)
        exact ⟨q', rfl, fun h => (by cases h), HF.1, HF.2⟩
      | some Y =>
        dsimp only at HPL
        have hpf := place_facts HL.out HLB.out HRD.out
        have hc0 : c = 0 := hpf.1
        subst hc0
        obtain ⟨TT, YY, eY⟩ := key_iface (good_signs HGF.out hpf.2.2.2.1 hpf.2.2.2.2.2.1).1
        rw [eY] at HPL
        have HE := Lib.hid eY
        clear eY hpf
        go_wp2_with fail
        refine HPL.out.mono ?_
        rintro e w2 ⟨rfl, ⟨q', hs2, hq2⟩, hk2⟩
        obtain rfl := hq2 rfl
        have HS2 : Hid (Sn l _ X g cap w w2) := Lib.hid ⟨hs2, HC.out.1.2.trans hk2⟩
        have HB2 := Lib.hid (HB0.out.sk HXW.out hk2)
        obtain ⟨z0, z1, z2, z3⟩ := blk3 HB2.out.2.1
        have fz := z3 2
        clear hs2 hk2 f0 f1 f2 f3 hq2 z3
        go_wp2_with fail
        go_round
        case measure => simp [intOf]
        case rel =>
          refine ⟨2 + 1, _, tmV X0, tmV X1, .iface TT YY, rfl, Lib.hid (by rw [← HE.out]; exact .three X0 X1 Y q1 q _ H1.out H2.out HRD.out), Lib.hid ⟨HS2.out.set (by show w.heap.size ≤ w.heap.size + 1; omega) HXW.out HGW.out _, HB2.out.set 2 _ rfl⟩⟩
    | three X0 X1 X2 q1 q2 _ h1 h2 h3 =>
      rw [show ((3 : Nat) : Int) = 3 from rfl]
      obtain ⟨_, _, _, s1, _, g1, _⟩ := place_facts HL.out HLB.out h1
      obtain ⟨_, _, _, s2, _, g2, _⟩ := place_facts HL.out HLB.out h2
      obtain ⟨_, _, _, s3, _, g3, _⟩ := place_facts HL.out HLB.out h3
      obtain ⟨T1, Y1, e1⟩ := key_iface (good_signs HGF.out s1 g1).1
      obtain ⟨T2, Y2, e2⟩ := key_iface (good_signs HGF.out s2 g2).1
      obtain ⟨T3, Y3, e3⟩ := key_iface (good_signs HGF.out s3 g3).1
      have H1 := Lib.hid h1
      have H2 := Lib.hid h2
      have H3 := Lib.hid h3
      have E := Lib.hid (⟨e1, e2, e3⟩ : _ ∧ _ ∧ _)
      rw [e1, e2, e3] at HC
      clear HT h1 h2 h3 s1 s2 s3 g1 g2 g3 e1 e2 e3
      by_cases h46 : pk l q = 46
      · have HRR : Hid (R = (some ⟨X0, X1, X2⟩, q + 1, 0)) := Lib.hid (by rw [HR.out]; unfold tripleT; rw [H1.out]; dsimp only; rw [H2.out]; dsimp only; rw [H3.out]; dsimp only; rw [if_pos h46])
        have HI := Lib.hid (fun w2 (h1 : ScW l q X g cap w2) => is1_yes 46 46 rfl (by decide) h1 HL.out hb6 h46)
        clear h46
        go_wp2_with fail
        refine (HI.out _ HC.out.1.1).mono ?_
        intro e w2 hmv
        have HB2 := Lib.hid (HC.out.2.sk HXW.out hmv.2.2)
        obtain ⟨rfl, hs2⟩ := HC.out.1.moved hmv
        have HS2 := Lib.hid hs2
        obtain ⟨z0, z1, z2, z3⟩ := blk3 HB2.out.1
        obtain ⟨y0, y1, y2, y3⟩ := blk3 HB2.out.2.1
        have fz := z3 0
        have fz1 := z3 1
        have fz2 := z3 2
        clear hmv hs2 z3 y3
        go_wp2_with fail
        refine bodyPost_ret (v := .tuple #[.agg #[.iface T1 Y1, .iface T2 Y2, .iface T3 Y3], .int .i64 0, .int .i64 0]) (by simp [results, Tryd.results45, go_sem, z0, z1, z2]) rfl ?_
        rw [HRR.out]
        have HF := (((HS2.out.set (a := ⟨w.heap.size, 0, none⟩) (Nat.le_refl _) HXW.out HGW.out (.iface T1 Y1)).set (a := ⟨w.heap.size, 1, none⟩) (Nat.le_refl _) HXW.out HGW.out (.iface T2 Y2)).set (a := ⟨w.heap.size, 2, none⟩) (Nat.le_refl _) HXW.out HGW.out (.iface T3 Y3))
        refine ⟨q + 1, ?_, fun _ => rfl, HF.1, HF.2⟩
        show _ = Ending.returned (.tuple #[triV ⟨X0, X1, X2⟩, _, _])
        unfold triV
        rw [E.out.1, E.out.2.1, E.out.2.2]
        rfl
      · have HRR : Hid (R = (none, q, 1)) := Lib.hid (by rw [HR.out]; unfold tripleT; rw [H1.out]; dsimp only; rw [H2.out]; dsimp only; rw [H3.out]; dsimp only; rw [if_neg h46])
        have HI := Lib.hid (fun w2 (h1 : ScW l q X g cap w2) => is1_no 46 46 rfl (by decide) h1 HL.out hb6 h46)
        clear h46
        go_wp2_with fail
        refine (HI.out _ HC.out.1.1).mono ?_
        intro e w2 hmv
        have HB2 := Lib.hid (HC.out.2.sk HXW.out hmv.2.2)
        obtain ⟨rfl, hs2⟩ := HC.out.1.moved hmv
        have HS2 := Lib.hid hs2
        clear hmv hs2
        go_wp2_with fail
        refine (place_any l q X g cap _ HS2.out.1).mono ?_
        rintro e w3 ⟨rfl, rfl⟩
        obtain ⟨z0, z1, z2, z3⟩ := blk3 HB2.out.1
        have fz := z3 0
        have fz1 := z3 1
        have fz2 := z3 2
        clear z3
        go_wp2_with fail
        refine bodyPost_ret (v := .tuple #[.agg #[.nilIface, .nilIface, .nilIface], .int .i64 q, .int .i64 1]) (by simp [results, Tryd.results45, go_sem, z0, z1, z2]) rfl ?_
        rw [HRR.out]
        have HF := (((HS2.out.set (a := ⟨w.heap.size, 0, none⟩) (Nat.le_refl _) HXW.out HGW.out .nilIface).set (a := ⟨w.heap.size, 1, none⟩) (Nat.le_refl _) HXW.out HGW.out .nilIface).set (a := ⟨w.heap.size, 2, none⟩) (Nat.le_refl _) HXW.out HGW.out .nilIface)
        exact ⟨q, rfl, fun h => (by cases h), HF.1, HF.2⟩
end Go.Proofs.YtbchkhjkajagfaaDoor
