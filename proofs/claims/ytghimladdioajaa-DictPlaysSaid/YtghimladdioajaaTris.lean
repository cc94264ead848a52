/- Contract over this seat's program: becklaw03.Ref; a document's term is not unlike itself. Triples over this seat's program: nt.subject, nt.predicate, Triple.Good; the document's Good; becklaw04.Real. Contract over this seat's program: becklaw04.Is: triples are the document's. -/
import Derived.Test.YtghimladdioajaaDcRef
import Derived.Test.YtghimladdioajaaDcGood
import Derived.Test.YtghimladdioajaaDcTerm
import Derived.Test.YtghimladdioajaaRegLast
namespace Go.Proofs.Ytghimladdioajaa
open Go Go.RowKit
set_option linter.unusedVariables false
set_option linter.unusedSimpArgs false
set_option maxRecDepth 100000 in
set_option maxHeartbeats 800000 in
theorem ref_any (X : Tm) (hX : KeyT X) (w : World) : Calls Try.prog 27 #[tmV X] w fun e w' => e = .returned (refT X) ∧ Below w.heap.size w w' := by
  cases X with
  | blank s =>
    show Calls Try.prog 27 #[.iface 93 (.agg #[.string s])] w fun e w' => e = .returned (.agg #[.int .i64 0, .string s, .string ⟨#[]⟩, .string ⟨#[]⟩]) ∧ Below w.heap.size w w'
    have t0 := ta_blank_Blank s
    have t1 := ta_blank_IRI s
    have t2 := ta_blank_Literal s
    go_enter Try.func27, Try.ntmps27
    go_wp2
    refine bodyPost_ret (v := .agg #[.int .i64 0, .string s, .string ⟨#[]⟩, .string ⟨#[]⟩]) (by simp [results, Try.results27, go_sem]) rfl ?_
    exact ⟨rfl, by go_grown⟩
  | iri s =>
    show Calls Try.prog 27 #[.iface 95 (.agg #[.string s])] w fun e w' => e = .returned (.agg #[.int .i64 1, .string s, .string ⟨#[]⟩, .string ⟨#[]⟩]) ∧ Below w.heap.size w w'
    have t0 := ta_iri_Blank s
    have t1 := ta_iri_IRI s
    have t2 := ta_iri_Literal s
    go_enter Try.func27, Try.ntmps27
    go_wp2
    refine bodyPost_ret (v := .agg #[.int .i64 1, .string s, .string ⟨#[]⟩, .string ⟨#[]⟩]) (by simp [results, Try.results27, go_sem]) rfl ?_
    exact ⟨rfl, by go_grown⟩
  | lit s t l =>
    show Calls Try.prog 27 #[.iface 84 (.agg #[.string s, .string t, .string l])] w fun e w' => e = .returned (.agg #[.int .i64 2, .string s, .string t, .string l]) ∧ Below w.heap.size w w'
    have t0 := ta_lit_Blank s t l
    have t1 := ta_lit_IRI s t l
    have t2 := ta_lit_Literal s t l
    go_enter Try.func27, Try.ntmps27
    go_wp2
    refine bodyPost_ret (v := .agg #[.int .i64 2, .string s, .string t, .string l]) (by simp [results, Try.results27, go_sem]) rfl ?_
    exact ⟨rfl, by go_grown⟩
  | odd n => exact hX.elim
  | none => exact hX.elim
theorem neq_refT (X : Tm) (w : World) : (Go.binOp BinOp.neq 31 (refT X) (refT X)).run Try.prog w = .ok (.bool false) w := by
  have h := eq_refT X X w
  have hs : eqD X X = true := by unfold eqD; simp [sameS]
  rw [hs] at h
  change ((Op.equal 31 (refT X) (refT X)) >>= fun b => pure (Value.bool b)).run Try.prog w = _ at h
  change ((Op.equal 31 (refT X) (refT X)) >>= fun b => pure (Value.bool !b)).run Try.prog w = _
  rw [Sem.run_bind] at h ⊢
  cases hr : (Op.equal 31 (refT X) (refT X)).run Try.prog w with
  | ok b' w' =>
    rw [hr] at h
    simp only [Result.andThen_ok, Sem.run_pure] at h ⊢
    cases h
    rfl
  | halt u w' =>
    rw [hr] at h
    simp [Result.andThen] at h
end Go.Proofs.Ytghimladdioajaa
namespace Go.Proofs.Ytghimladdioajaa
open Go Go.RowKit
set_option linter.unusedVariables false
set_option linter.unusedSimpArgs false
set_option maxRecDepth 100000
structure Tri where
  s : Tm
  p : Tm
  o : Tm
def triC (t : Tri) : List Value := [tmV t.s, tmV t.p, tmV t.o]
def triV (t : Tri) : Value := .agg #[tmV t.s, tmV t.p, tmV t.o]
def rtriC (t : Tri) : List Value := [.int .i64 (kindV t.s), .string (text0 t.s), .string (text1 t.s), .string (text2 t.s), .int .i64 (kindV t.p), .string (text0 t.p), .string (text1 t.p), .string (text2 t.p), .int .i64 (kindV t.o), .string (text0 t.o), .string (text1 t.o), .string (text2 t.o)]
def rtriV (t : Tri) : Value := .agg #[.int .i64 (kindV t.s), .string (text0 t.s), .string (text1 t.s), .string (text2 t.s), .int .i64 (kindV t.p), .string (text0 t.p), .string (text1 t.p), .string (text2 t.p), .int .i64 (kindV t.o), .string (text0 t.o), .string (text1 t.o), .string (text2 t.o)]
def KeyTri (t : Tri) : Prop := KeyT t.s ∧ KeyT t.p ∧ KeyT t.o
def SmallTri (t : Tri) : Prop := Small t.s ∧ Small t.p ∧ Small t.o
def subG (G : Tm → Bool) (x : Tm) : Bool := G x && decide (kindV x < 2)
def prdG (G : Tm → Bool) (x : Tm) : Bool := G x && decide (kindV x = 1)
/-- may it be a triple -/
def goodTri (G : Tm → Bool) (t : Tri) : Bool := subG G t.s && prdG G t.p && G t.o
set_option maxHeartbeats 800000 in
theorem subject_any {G : Tm → Bool} (hG : GoodFn G) {x : Tm} (hz : Small x) {w : World} (hm : MaxV w) : Calls Try.prog 46 #[tmV x] w fun e w' => e = .returned (.bool (subG G x)) ∧ Below w.heap.size w w' := by
  have HG := Lib.hid ((hG x hz).1 w hm)
  have HK := Lib.hid (fun w => kind_any x w)
  clear hm hG
  unfold subG
  generalize G x = g at *
  generalize kindV x = k at *
  generalize tmV x = X at *
  cases g with
  | false =>
    go_enter Try.func46, Try.ntmps46
    go_wp2_with fail
    refine HG.out.mono ?_
    rintro e w1 ⟨rfl, hb⟩
    go_wp2_with fail
    go_ret
    exact ⟨rfl, hb⟩
  | true =>
    go_enter Try.func46, Try.ntmps46
    go_wp2_with fail
    refine HG.out.mono ?_
    rintro e w1 ⟨rfl, hb⟩
    go_wp2_with fail
    refine (HK.out _).mono ?_
    rintro e w2 ⟨rfl, rfl⟩
    go_wp2_with fail
    go_ret
    exact ⟨by simp, hb⟩
set_option maxHeartbeats 800000 in
theorem predicate_any {G : Tm → Bool} (hG : GoodFn G) {x : Tm} (hz : Small x) {w : World} (hm : MaxV w) : Calls Try.prog 47 #[tmV x] w fun e w' => e = .returned (.bool (prdG G x)) ∧ Below w.heap.size w w' := by
  have HG := Lib.hid ((hG x hz).1 w hm)
  have HK := Lib.hid (fun w => kind_any x w)
  clear hm hG
  unfold prdG
  generalize G x = g at *
  generalize kindV x = k at *
  generalize tmV x = X at *
  cases g with
  | false =>
    go_enter Try.func47, Try.ntmps47
    go_wp2_with fail
    refine HG.out.mono ?_
    rintro e w1 ⟨rfl, hb⟩
    go_wp2_with fail
    go_ret
    exact ⟨rfl, hb⟩
  | true =>
    go_enter Try.func47, Try.ntmps47
    go_wp2_with fail
    refine HG.out.mono ?_
    rintro e w1 ⟨rfl, hb⟩
    go_wp2_with fail
    refine (HK.out _).mono ?_
    rintro e w2 ⟨rfl, rfl⟩
    go_wp2_with fail
    go_ret
    exact ⟨by simp [Bool.beq_eq_decide_eq], hb⟩
set_option maxHeartbeats 1600000 in
theorem tgood3_any {G : Tm → Bool} (hG : GoodFn G) (t : Tri) (hz : SmallTri t) {w : World} (hm : MaxV w) : Calls Try.prog 37 #[triV t] w fun e w' => e = .returned (.bool (goodTri G t)) ∧ Below w.heap.size w w' := by
  have HS := Lib.hid (fun w1 (hb : Below w.heap.size w w1) => subject_any hG hz.1 (hm.below hb))
  have HP := Lib.hid (fun w1 (hb : Below w.heap.size w w1) => predicate_any hG hz.2.1 (hm.below hb))
  have HO := Lib.hid (fun w1 (hb : Below w.heap.size w w1) => (hG t.o hz.2.2).1 w1 (hm.below hb))
  unfold triV goodTri
  clear hm hz hG
  generalize subG G t.s = g1 at *
  generalize prdG G t.p = g2 at *
  generalize G t.o = g3 at *
  generalize tmV t.s = S at *
  generalize tmV t.p = Pv at *
  generalize tmV t.o = O at *
  obtain ⟨W0, hW0⟩ : ∃ W0, W0 = w.alloc (.cells #[S, Pv, O] 58) := ⟨_, rfl⟩
  have hbw : Below w.heap.size w W0 := by rw [hW0]; go_grown
  have hbx : W0.heap[w.heap.size]? = some (.cells #[S, Pv, O] 58 (0, 0)) := by rw [hW0]; exact (MapKept.heap_alloc w _).1
  have HH := Lib.hid (⟨hbw, hbx⟩ : _ ∧ _)
  obtain ⟨c0, c1, c2, -⟩ := cells3 hbx
  have HW0 := Lib.hid hW0
  clear hbw hbx hW0
  cases g1 with
  | false =>
    go_enter Try.func37, Try.ntmps37
    go_wp2_with fail
    rw [← HW0.out]
    refine (HS.out _ HH.out.1).mono ?_
    rintro e w1 ⟨rfl, hb⟩
    go_wp2_with fail
    go_ret
    exact ⟨rfl, HH.out.1.trans (hb.mono HH.out.1.size)⟩
  | true =>
    cases g2 with
    | false =>
      go_enter Try.func37, Try.ntmps37
      go_wp2_with fail
      rw [← HW0.out]
      refine (HS.out _ HH.out.1).mono ?_
      rintro e w1 ⟨rfl, hb⟩
      have d1 := cell_below c1 hb
      have HB := Lib.hid (HH.out.1.trans (hb.mono HH.out.1.size))
      clear hb
      go_wp2_with fail
      refine (HP.out _ HB.out).mono ?_
      rintro e w2 ⟨rfl, hb⟩
      go_wp2_with fail
      go_ret
      exact ⟨rfl, HB.out.trans (hb.mono HB.out.size)⟩
    | true =>
      go_enter Try.func37, Try.ntmps37
      go_wp2_with fail
      rw [← HW0.out]
      refine (HS.out _ HH.out.1).mono ?_
      rintro e w1 ⟨rfl, hb⟩
      have d1 := cell_below c1 hb
      have d2 := cell_below c2 hb
      have HB := Lib.hid (HH.out.1.trans (hb.mono HH.out.1.size))
      clear hb
      go_wp2_with fail
      refine (HP.out _ HB.out).mono ?_
      rintro e w2 ⟨rfl, hb⟩
      have e2 := cell_below d2 hb
      replace HB := Lib.hid (HB.out.trans (hb.mono HB.out.size))
      clear hb
      go_wp2_with fail
      refine (HO.out _ HB.out).mono ?_
      rintro e w3 ⟨rfl, hb⟩
      go_wp2_with fail
      go_ret
      exact ⟨by simp, HB.out.trans (hb.mono HB.out.size)⟩
theorem cells12 {w : World} {b : Nat} {T : TypeId} {x0 x1 x2 x3 x4 x5 x6 x7 x8 x9 y0 y1 : Value} (h1 : w.heap[b]? = some (.cells #[x0, x1, x2, x3, x4, x5, x6, x7, x8, x9, y0, y1] T (0, 0))) :
    w.cell? ⟨b, 0, none⟩ = some x0 ∧ w.cell? ⟨b, 1, none⟩ = some x1 ∧ w.cell? ⟨b, 2, none⟩ = some x2 ∧ w.cell? ⟨b, 3, none⟩ = some x3 ∧ w.cell? ⟨b, 4, none⟩ = some x4 ∧ w.cell? ⟨b, 5, none⟩ = some x5 ∧ w.cell? ⟨b, 6, none⟩ = some x6 ∧ w.cell? ⟨b, 7, none⟩ = some x7 ∧
    w.cell? ⟨b, 8, none⟩ = some x8 ∧ w.cell? ⟨b, 9, none⟩ = some x9 ∧ w.cell? ⟨b, 10, none⟩ = some y0 ∧ w.cell? ⟨b, 11, none⟩ = some y1 := by
  exact ⟨by simp [World.cell?, h1], by simp [World.cell?, h1], by simp [World.cell?, h1], by simp [World.cell?, h1], by simp [World.cell?, h1], by simp [World.cell?, h1], by simp [World.cell?, h1], by simp [World.cell?, h1], by simp [World.cell?, h1], by simp [World.cell?, h1], by simp [World.cell?, h1], by simp [World.cell?, h1]⟩
theorem froz3 {w : World} {p : Nat} {a b c : Value} {T : TypeId} (h1 : w.heap[p]? = some (.cells #[a, b, c] T (0, 0))) : w.frozen? ⟨p, 1, none⟩ = false ∧ w.frozen? ⟨p, 2, none⟩ = false := ⟨by simp [World.frozen?, h1], by simp [World.frozen?, h1]⟩
theorem boxb {w w' : World} {b : Nat} {o : Obj} (h : w.heap[b]? = some o) (hb : Below w.heap.size w w') : w'.heap[b]? = some o := (hb.block b (lt_heap h)).trans h
set_option maxHeartbeats 3200000 in
theorem rgood3_any {G : Tm → Bool} (hG : GoodFn G) (t : Tri) (hz : SmallTri t) (w : World) : Calls Try.prog 19 #[rtriV t] w fun e w' => e = .returned (.bool (goodTri G t)) ∧ Below w.heap.size w w' := by
  have HS := Lib.hid ((hG t.s hz.1).2.1)
  have HP := Lib.hid ((hG t.p hz.2.1).2.1)
  have HO := Lib.hid ((hG t.o hz.2.2).2.1)
  unfold rtriV goodTri subG prdG
  clear hz hG
  generalize G t.s = g1 at *
  generalize G t.p = g2 at *
  generalize G t.o = g3 at *
  generalize kindV t.s = k1 at *
  generalize text0 t.s = s1 at *
  generalize text1 t.s = t1 at *
  generalize text2 t.s = l1 at *
  generalize kindV t.p = k2 at *
  generalize text0 t.p = s2 at *
  generalize text1 t.p = t2 at *
  generalize text2 t.p = l2 at *
  generalize kindV t.o = k3 at *
  generalize text0 t.o = s3 at *
  generalize text1 t.o = t3 at *
  generalize text2 t.o = l3 at *
  obtain ⟨W0, hW0⟩ : ∃ W0, W0 = w.alloc (.cells #[.int .i64 k1, .string s1, .string t1, .string l1, .int .i64 k2, .string s2, .string t2, .string l2, .int .i64 k3, .string s3, .string t3, .string l3] 51) := ⟨_, rfl⟩
  have hbw : Below w.heap.size w W0 := by rw [hW0]; go_grown
  have hbx : W0.heap[w.heap.size]? = some (.cells #[.int .i64 k1, .string s1, .string t1, .string l1, .int .i64 k2, .string s2, .string t2, .string l2, .int .i64 k3, .string s3, .string t3, .string l3] 51 (0, 0)) := by rw [hW0]; exact (MapKept.heap_alloc w _).1
  have HH := Lib.hid (⟨hbw, hbx⟩ : _ ∧ _)
  obtain ⟨c0, c1, c2, c3, c4, c5, c6, c7, c8, c9, c10, c11⟩ := cells12 hbx
  have HW0 := Lib.hid hW0
  clear hbw hbx hW0
  cases g1 with
  | false =>
    go_enter Try.func19, Try.ntmps19
    go_wp2_with fail
    rw [← HW0.out]
    refine (HS.out _).mono ?_
    rintro e w1 ⟨rfl, hb⟩
    have HB := Lib.hid (HH.out.1.trans (hb.mono HH.out.1.size))
    have HX := Lib.hid (boxb HH.out.2 hb)
    clear c0 c1 c2 c3 c4 c5 c6 c7 c8 c9 c10 c11
    obtain ⟨c0, c1, c2, c3, c4, c5, c6, c7, c8, c9, c10, c11⟩ := cells12 HX.out
    clear hb
    go_wp2_with fail
    go_ret
    exact ⟨rfl, HB.out⟩
  | true =>
    by_cases hk1 : k1 < 2
    · have e1 : decide (k1 < 2) = true := decide_eq_true hk1
      rw [e1]
      cases g2 with
      | false =>
        go_enter Try.func19, Try.ntmps19
        go_wp2_with fail
        rw [← HW0.out]
        refine (HS.out _).mono ?_
        rintro e w1 ⟨rfl, hb⟩
        have HB := Lib.hid (HH.out.1.trans (hb.mono HH.out.1.size))
        have HX := Lib.hid (boxb HH.out.2 hb)
        clear c0 c1 c2 c3 c4 c5 c6 c7 c8 c9 c10 c11
        obtain ⟨c0, c1, c2, c3, c4, c5, c6, c7, c8, c9, c10, c11⟩ := cells12 HX.out
        clear hb
        go_wp2_with fail
        refine (HP.out _).mono ?_
        rintro e w2 ⟨rfl, hb⟩
        replace HB := Lib.hid (HB.out.trans (hb.mono HB.out.size))
        replace HX := Lib.hid (boxb HX.out hb)
        clear c0 c1 c2 c3 c4 c5 c6 c7 c8 c9 c10 c11
        obtain ⟨c0, c1, c2, c3, c4, c5, c6, c7, c8, c9, c10, c11⟩ := cells12 HX.out
        clear hb
        go_wp2_with fail
        go_ret
        exact ⟨rfl, HB.out⟩
      | true =>
        by_cases hk2 : k2 = 1
        · have e2 : decide (k2 = 1) = true := decide_eq_true hk2
          rw [e2]
          have e3 : (k2 == 1) = true := by simpa using hk2
          have HK2 := Lib.hid hk2
          clear hk2 e2
          go_enter Try.func19, Try.ntmps19
          go_wp2_with fail
          rw [← HW0.out]
          refine (HS.out _).mono ?_
          rintro e w1 ⟨rfl, hb⟩
          have HB := Lib.hid (HH.out.1.trans (hb.mono HH.out.1.size))
          have HX := Lib.hid (boxb HH.out.2 hb)
          clear c0 c1 c2 c3 c4 c5 c6 c7 c8 c9 c10 c11
          obtain ⟨c0, c1, c2, c3, c4, c5, c6, c7, c8, c9, c10, c11⟩ := cells12 HX.out
          clear hb
          go_wp2_with fail
          refine (HP.out _).mono ?_
          rintro e w2 ⟨rfl, hb⟩
          replace HB := Lib.hid (HB.out.trans (hb.mono HB.out.size))
          replace HX := Lib.hid (boxb HX.out hb)
          clear c0 c1 c2 c3 c4 c5 c6 c7 c8 c9 c10 c11
          obtain ⟨c0, c1, c2, c3, c4, c5, c6, c7, c8, c9, c10, c11⟩ := cells12 HX.out
          clear hb
          go_wp2_with fail
          refine (HO.out _).mono ?_
          rintro e w3 ⟨rfl, hb⟩
          go_wp2_with fail
          go_ret
          exact ⟨by simp, HB.out.trans (hb.mono HB.out.size)⟩
        · have e2 : decide (k2 = 1) = false := decide_eq_false hk2
          rw [e2]
          have e3 : (k2 == 1) = false := by simpa using hk2
          clear hk2 e2
          go_enter Try.func19, Try.ntmps19
          go_wp2_with fail
          rw [← HW0.out]
          refine (HS.out _).mono ?_
          rintro e w1 ⟨rfl, hb⟩
          have HB := Lib.hid (HH.out.1.trans (hb.mono HH.out.1.size))
          have HX := Lib.hid (boxb HH.out.2 hb)
          clear c0 c1 c2 c3 c4 c5 c6 c7 c8 c9 c10 c11
          obtain ⟨c0, c1, c2, c3, c4, c5, c6, c7, c8, c9, c10, c11⟩ := cells12 HX.out
          clear hb
          go_wp2_with fail
          refine (HP.out _).mono ?_
          rintro e w2 ⟨rfl, hb⟩
          replace HB := Lib.hid (HB.out.trans (hb.mono HB.out.size))
          replace HX := Lib.hid (boxb HX.out hb)
          clear c0 c1 c2 c3 c4 c5 c6 c7 c8 c9 c10 c11
          obtain ⟨c0, c1, c2, c3, c4, c5, c6, c7, c8, c9, c10, c11⟩ := cells12 HX.out
          clear hb
          go_wp2_with fail
          go_ret
          exact ⟨rfl, HB.out⟩
    · have e1 : decide (k1 < 2) = false := decide_eq_false hk1
      rw [e1]
      clear hk1
      go_enter Try.func19, Try.ntmps19
      go_wp2_with fail
      rw [← HW0.out]
      refine (HS.out _).mono ?_
      rintro e w1 ⟨rfl, hb⟩
      have HB := Lib.hid (HH.out.1.trans (hb.mono HH.out.1.size))
      have HX := Lib.hid (boxb HH.out.2 hb)
      clear c0 c1 c2 c3 c4 c5 c6 c7 c8 c9 c10 c11
      obtain ⟨c0, c1, c2, c3, c4, c5, c6, c7, c8, c9, c10, c11⟩ := cells12 HX.out
      clear hb
      go_wp2_with fail
      go_ret
      exact ⟨rfl, HB.out⟩
set_option maxHeartbeats 3200000 in
theorem real3_any (t : Tri) (hk : KeyTri t) (w : World) : Calls Try.prog 21 #[rtriV t] w fun e w' => e = .returned (triV t) ∧ Below w.heap.size w w' := by
  have HS := Lib.hid (fun w => real_any t.s hk.1 w)
  have HP := Lib.hid (fun w => real_any t.p hk.2.1 w)
  have HO := Lib.hid (fun w => real_any t.o hk.2.2 w)
  unfold refT at HS HP HO
  have hf : ∀ X : Tm, KeyT X → ∃ T Y, tmV X = .iface T Y := fun X hX => by
    cases X with
    | blank s => exact ⟨_, _, rfl⟩
    | iri s => exact ⟨_, _, rfl⟩
    | lit s t l => exact ⟨_, _, rfl⟩
    | odd n => exact hX.elim
    | none => exact hX.elim
  obtain ⟨TS, YS, hS⟩ := hf _ hk.1
  obtain ⟨TP, YP, hP⟩ := hf _ hk.2.1
  obtain ⟨TO, YO, hO⟩ := hf _ hk.2.2
  unfold rtriV triV
  rw [hS] at HS ⊢
  rw [hP] at HP ⊢
  rw [hO] at HO ⊢
  clear hk hS hP hO hf
  generalize kindV t.s = k1 at *
  generalize text0 t.s = s1 at *
  generalize text1 t.s = t1 at *
  generalize text2 t.s = l1 at *
  generalize kindV t.p = k2 at *
  generalize text0 t.p = s2 at *
  generalize text1 t.p = t2 at *
  generalize text2 t.p = l2 at *
  generalize kindV t.o = k3 at *
  generalize text0 t.o = s3 at *
  generalize text1 t.o = t3 at *
  generalize text2 t.o = l3 at *
  obtain ⟨W0, hW0⟩ : ∃ W0, W0 = (w.alloc (.cells #[.int .i64 k1, .string s1, .string t1, .string l1, .int .i64 k2, .string s2, .string t2, .string l2, .int .i64 k3, .string s3, .string t3, .string l3] 51)).alloc (.cells #[.nilIface, .nilIface, .nilIface] 58) := ⟨_, rfl⟩
  have hbw : Below w.heap.size w W0 := by rw [hW0]; go_grown
  have hbx : W0.heap[w.heap.size]? = some (.cells #[.int .i64 k1, .string s1, .string t1, .string l1, .int .i64 k2, .string s2, .string t2, .string l2, .int .i64 k3, .string s3, .string t3, .string l3] 51 (0, 0)) := by rw [hW0, Below.heap_alloc _ _ _ (by simp)]; exact (MapKept.heap_alloc w _).1
  have hby : W0.heap[w.heap.size + 1]? = some (.cells #[.nilIface, .nilIface, .nilIface] 58 (0, 0)) := by rw [hW0]; have := (MapKept.heap_alloc (w.alloc (.cells #[.int .i64 k1, .string s1, .string t1, .string l1, .int .i64 k2, .string s2, .string t2, .string l2, .int .i64 k3, .string s3, .string t3, .string l3] 51)) (.cells #[.nilIface, .nilIface, .nilIface] 58)).1; simpa using this
  have HH := Lib.hid (⟨hbw, hbx, hby⟩ : _ ∧ _ ∧ _)
  have HW0 := Lib.hid hW0
  clear hbw hbx hby hW0
  go_enter Try.func21, Try.ntmps21
  go_wp2_with fail
  rw [← HW0.out]
  refine wp_region_last (S := (fun w' => w'.heap[w.heap.size]? = some (.cells #[.int .i64 k1, .string s1, .string t1, .string l1, .int .i64 k2, .string s2, .string t2, .string l2, .int .i64 k3, .string s3, .string t3, .string l3] 51 (0, 0)))) 10 10 (by kernel_rfl) (by kernel_rfl) (by kernel_rfl) ?hSre0 (fun hHeld => ?_)
  case hSre0 => exact HH.out.2.1
  refine wpAnyH_take (i := 0) (oi := ⟨some 3, _, _, _, _, _⟩) (v := ?vre0) rfl (by kernel_rfl) (by kernel_rfl) (by kernel_rfl) (fun _ _ _ h => h) (Or.inl ⟨by kernel_rfl, ?yre0⟩) (by assumption) ?rre0
  case yre0 =>
    intro w hSw
    try dsimp only at hSw
    obtain ⟨c0, c1, c2, c3, c4, c5, c6, c7, c8, c9, c10, c11⟩ := cells12 hSw
    first | (go_simp; done) | (go_simp; with_reducible rfl)
  try simp only [Act.put, List.setIfInBounds_toArray, List.set_cons_zero, List.set_cons_succ]
  refine wpAnyH_take (i := 1) (oi := ⟨some 4, _, _, _, _, _⟩) (v := ?vre1) rfl (by kernel_rfl) (by kernel_rfl) (by kernel_rfl) (fun _ _ _ h => h) (Or.inl ⟨by kernel_rfl, ?yre1⟩) (by assumption) ?rre1
  case yre1 =>
    intro w hSw
    try dsimp only at hSw
    obtain ⟨c0, c1, c2, c3, c4, c5, c6, c7, c8, c9, c10, c11⟩ := cells12 hSw
    first | (go_simp; done) | (go_simp; with_reducible rfl)
  try simp only [Act.put, List.setIfInBounds_toArray, List.set_cons_zero, List.set_cons_succ]
  refine wpAnyH_take (i := 3) (oi := ⟨some 6, _, _, _, _, _⟩) (v := ?vre3) rfl (by kernel_rfl) (by kernel_rfl) (by kernel_rfl) (fun _ _ _ h => h) (Or.inl ⟨by kernel_rfl, ?yre3⟩) (by assumption) ?rre3
  case yre3 =>
    intro w hSw
    try dsimp only at hSw
    obtain ⟨c0, c1, c2, c3, c4, c5, c6, c7, c8, c9, c10, c11⟩ := cells12 hSw
    first | (go_simp; done) | (go_simp; with_reducible rfl)
  try simp only [Act.put, List.setIfInBounds_toArray, List.set_cons_zero, List.set_cons_succ]
  refine wpAnyH_take (i := 4) (oi := ⟨some 7, _, _, _, _, _⟩) (v := ?vre4) rfl (by kernel_rfl) (by kernel_rfl) (by kernel_rfl) (fun _ _ _ h => h) (Or.inl ⟨by kernel_rfl, ?yre4⟩) (by assumption) ?rre4
  case yre4 =>
    intro w hSw
    try dsimp only at hSw
    obtain ⟨c0, c1, c2, c3, c4, c5, c6, c7, c8, c9, c10, c11⟩ := cells12 hSw
    first | (go_simp; done) | (go_simp; with_reducible rfl)
  try simp only [Act.put, List.setIfInBounds_toArray, List.set_cons_zero, List.set_cons_succ]
  refine wpAnyH_take (i := 6) (oi := ⟨some 9, _, _, _, _, _⟩) (v := ?vre6) rfl (by kernel_rfl) (by kernel_rfl) (by kernel_rfl) (fun _ _ _ h => h) (Or.inl ⟨by kernel_rfl, ?yre6⟩) (by assumption) ?rre6
  case yre6 =>
    intro w hSw
    try dsimp only at hSw
    obtain ⟨c0, c1, c2, c3, c4, c5, c6, c7, c8, c9, c10, c11⟩ := cells12 hSw
    first | (go_simp; done) | (go_simp; with_reducible rfl)
  try simp only [Act.put, List.setIfInBounds_toArray, List.set_cons_zero, List.set_cons_succ]
  refine wpAnyH_take (i := 7) (oi := ⟨some 10, _, _, _, _, _⟩) (v := ?vre7) rfl (by kernel_rfl) (by kernel_rfl) (by kernel_rfl) (fun _ _ _ h => h) (Or.inl ⟨by kernel_rfl, ?yre7⟩) (by assumption) ?rre7
  case yre7 =>
    intro w hSw
    try dsimp only at hSw
    obtain ⟨c0, c1, c2, c3, c4, c5, c6, c7, c8, c9, c10, c11⟩ := cells12 hSw
    first | (go_simp; done) | (go_simp; with_reducible rfl)
  try simp only [Act.put, List.setIfInBounds_toArray, List.set_cons_zero, List.set_cons_succ]
  refine wpAnyH_ready (rs := [2]) (by kernel_rfl) (by simp) ?_
  refine AllReadyH.cons (i := 2) (o := ⟨some 5, _, _, _, _, _⟩) rfl (fun K hK => ?_) AllReadyH.nil
  go_simp
  refine (HS.out _).mono ?_
  rintro e w1 ⟨rfl, hb1⟩
  have HB := Lib.hid (HH.out.1.drew.trans (hb1.mono (show w.heap.size ≤ W0.drew.heap.size from HH.out.1.size)))
  have HY := Lib.hid (boxb (w := W0.drew) HH.out.2.2 hb1)
  go_wp2_with fail
  refine hK.out _ _ ?_ (fun hHeld => ?_)
  · exact boxb (by assumption) hb1
  clear hK K
  try simp only [Act.put, List.setIfInBounds_toArray, List.set_cons_zero, List.set_cons_succ]
  refine wpAnyH_ready (rs := [5]) (by kernel_rfl) (by simp) ?_
  refine AllReadyH.cons (i := 5) (o := ⟨some 8, _, _, _, _, _⟩) rfl (fun K hK => ?_) AllReadyH.nil
  go_simp
  refine (HP.out _).mono ?_
  rintro e w2 ⟨rfl, hb2⟩
  replace HB := Lib.hid (HB.out.trans (hb2.mono HB.out.size))
  replace HY := Lib.hid (boxb HY.out hb2)
  go_wp2_with fail
  refine hK.out _ _ ?_ (fun hHeld => ?_)
  · exact boxb (by assumption) hb2
  clear hK K
  try simp only [Act.put, List.setIfInBounds_toArray, List.set_cons_zero, List.set_cons_succ]
  refine wpAnyH_ready (rs := [8]) (by kernel_rfl) (by simp) ?_
  refine AllReadyH.cons (i := 8) (o := ⟨some 11, _, _, _, _, _⟩) rfl (fun K hK => ?_) AllReadyH.nil
  go_simp
  refine (HO.out _).mono ?_
  rintro e w3 ⟨rfl, hb3⟩
  replace HB := Lib.hid (HB.out.trans (hb3.mono HB.out.size))
  replace HY := Lib.hid (boxb HY.out hb3)
  go_wp2_with fail
  refine hK.out _ _ ?_ (fun hHeld => ?_)
  · exact boxb (by assumption) hb3
  clear hK K
  try simp only [Act.put, List.setIfInBounds_toArray, List.set_cons_zero, List.set_cons_succ]
  refine wpAnyH_take (i := 9) (oi := ⟨some 12, _, _, _, _, _⟩) (v := ?vre9) rfl (by kernel_rfl) (by kernel_rfl) (by kernel_rfl) (fun _ _ _ h => h) (Or.inl ⟨by kernel_rfl, ?yre9⟩) (by assumption) ?rre9
  case yre9 =>
    intro w hSw
    try dsimp only at hSw
    obtain ⟨c0, c1, c2, c3, c4, c5, c6, c7, c8, c9, c10, c11⟩ := cells12 hSw
    first | (go_simp; done) | (go_simp; with_reducible rfl)
  try simp only [Act.put, List.setIfInBounds_toArray, List.set_cons_zero, List.set_cons_succ]
  refine wpAnyH_done (by kernel_rfl) ?_ _
  refine lastQ_normal ?_
  refine wpOp_step (o := ⟨none, _, _, _, _, _⟩) (by rfl) (fun K hK0 => ?_)
  have hK := Lib.hid hK0
  clear hK0
  obtain ⟨z0, z1, z2, z3⟩ := cells3 HY.out
  obtain ⟨z4, z5⟩ := froz3 HY.out
  go_simp
  refine hK.out _ _ ?_
  clear hK K
  try simp only [Act.put, List.setIfInBounds_toArray, List.set_cons_zero, List.set_cons_succ]
  obtain ⟨z0, z1, z2, z3⟩ := cells3 HY.out
  obtain ⟨z4, z5⟩ := froz3 HY.out
  go_wp2_with fail
  refine bodyPost_ret (v := .agg #[.iface TS YS, .iface TP YP, .iface TO YO]) (by simp [results, Try.results21, go_sem, z0, z1, z2]) rfl ?_
  exact ⟨rfl, ((HB.out.setCell (p := ⟨w.heap.size + 1, 0, none⟩) (by show _ ≤ w.heap.size + 1; omega) _).setCell (p := ⟨w.heap.size + 1, 1, none⟩) (by show _ ≤ w.heap.size + 1; omega) _).setCell (p := ⟨w.heap.size + 1, 2, none⟩) (by show _ ≤ w.heap.size + 1; omega) _⟩
end Go.Proofs.Ytghimladdioajaa
namespace Go.Proofs.Ytghimladdioajaa
open Go Go.RowKit
set_option linter.unusedVariables false
set_option linter.unusedSimpArgs false
set_option maxRecDepth 100000
abbrev TriRow (w : World) (base : Nat) (V : Value) (ts : List Tri) : Prop := RowOf 58 3 triC w base V ts
abbrev RTriRow (w : World) (base : Nat) (V : Value) (ts : List Tri) : Prop := RowOf 51 12 rtriC w base V ts
theorem triC_len (t : Tri) : (triC t).length = 3 := rfl
theorem rtriC_len (t : Tri) : (rtriC t).length = 12 := rfl
theorem tmV_one (x : Tm) : (tmV x).oneCell' = true := by cases x <;> rfl
theorem tri_at {w : World} {base : Nat} {V : Value} {ts : List Tri} (h : TriRow w base V ts) (j : Nat) (hj : j < ts.length) :
    ∃ g cap, V = .slice (some ⟨g, 0, none⟩) ts.length cap ∧ g < w.heap.size ∧ w.cell? ⟨g, j * 3, none⟩ = some (tmV (ts[j]'hj).s) ∧ w.cell? ⟨g, j * 3 + 1, none⟩ = some (tmV (ts[j]'hj).p) ∧ w.cell? ⟨g, j * 3 + 2, none⟩ = some (tmV (ts[j]'hj).o) := by
  obtain ⟨g, cap, hv, hb, hg, hc⟩ := h.at_ triC_len j hj
  exact ⟨g, cap, hv, hg, hc 0 _ (by omega) rfl, hc 1 _ (by omega) rfl, hc 2 _ (by omega) rfl⟩
theorem rtri_at {w : World} {base : Nat} {V : Value} {ts : List Tri} (h : RTriRow w base V ts) (j : Nat) (hj : j < ts.length) :
    ∃ g cap, V = .slice (some ⟨g, 0, none⟩) ts.length cap ∧ g < w.heap.size ∧ w.cell? ⟨g, j * 12, none⟩ = some (.int .i64 (kindV (ts[j]'hj).s)) ∧ w.cell? ⟨g, j * 12 + 1, none⟩ = some (.string (text0 (ts[j]'hj).s)) ∧ w.cell? ⟨g, j * 12 + 2, none⟩ = some (.string (text1 (ts[j]'hj).s)) ∧ w.cell? ⟨g, j * 12 + 3, none⟩ = some (.string (text2 (ts[j]'hj).s)) ∧
      w.cell? ⟨g, j * 12 + 4, none⟩ = some (.int .i64 (kindV (ts[j]'hj).p)) ∧ w.cell? ⟨g, j * 12 + 5, none⟩ = some (.string (text0 (ts[j]'hj).p)) ∧ w.cell? ⟨g, j * 12 + 6, none⟩ = some (.string (text1 (ts[j]'hj).p)) ∧ w.cell? ⟨g, j * 12 + 7, none⟩ = some (.string (text2 (ts[j]'hj).p)) ∧
      w.cell? ⟨g, j * 12 + 8, none⟩ = some (.int .i64 (kindV (ts[j]'hj).o)) ∧ w.cell? ⟨g, j * 12 + 9, none⟩ = some (.string (text0 (ts[j]'hj).o)) ∧ w.cell? ⟨g, j * 12 + 10, none⟩ = some (.string (text1 (ts[j]'hj).o)) ∧ w.cell? ⟨g, j * 12 + 11, none⟩ = some (.string (text2 (ts[j]'hj).o)) := by
  obtain ⟨g, cap, hv, hb, hg, hc⟩ := h.at_ rtriC_len j hj
  exact ⟨g, cap, hv, hg, hc 0 _ (by omega) rfl, hc 1 _ (by omega) rfl, hc 2 _ (by omega) rfl, hc 3 _ (by omega) rfl, hc 4 _ (by omega) rfl, hc 5 _ (by omega) rfl, hc 6 _ (by omega) rfl, hc 7 _ (by omega) rfl, hc 8 _ (by omega) rfl, hc 9 _ (by omega) rfl, hc 10 _ (by omega) rfl, hc 11 _ (by omega) rfl⟩
theorem kept15 {w1 w2 : World} {p0 p1 p2 p3 p4 p5 p6 p7 p8 p9 p10 p11 p12 p13 p14 : Addr} {v0 v1 v2 v3 v4 v5 v6 v7 v8 v9 v10 v11 v12 v13 v14 : Value} (h : w1.cell? p0 = some v0 ∧ w1.cell? p1 = some v1 ∧ w1.cell? p2 = some v2 ∧ w1.cell? p3 = some v3 ∧ w1.cell? p4 = some v4 ∧ w1.cell? p5 = some v5 ∧ w1.cell? p6 = some v6 ∧ w1.cell? p7 = some v7 ∧ w1.cell? p8 = some v8 ∧ w1.cell? p9 = some v9 ∧ w1.cell? p10 = some v10 ∧ w1.cell? p11 = some v11 ∧ w1.cell? p12 = some v12 ∧ w1.cell? p13 = some v13 ∧ w1.cell? p14 = some v14) (hb : Below w1.heap.size w1 w2) :
    w2.cell? p0 = some v0 ∧ w2.cell? p1 = some v1 ∧ w2.cell? p2 = some v2 ∧ w2.cell? p3 = some v3 ∧ w2.cell? p4 = some v4 ∧ w2.cell? p5 = some v5 ∧ w2.cell? p6 = some v6 ∧ w2.cell? p7 = some v7 ∧ w2.cell? p8 = some v8 ∧ w2.cell? p9 = some v9 ∧ w2.cell? p10 = some v10 ∧ w2.cell? p11 = some v11 ∧ w2.cell? p12 = some v12 ∧ w2.cell? p13 = some v13 ∧ w2.cell? p14 = some v14 := by
  obtain ⟨h0, h1, h2, h3, h4, h5, h6, h7, h8, h9, h10, h11, h12, h13, h14⟩ := h
  exact ⟨cell_below h0 hb, cell_below h1 hb, cell_below h2 hb, cell_below h3 hb, cell_below h4 hb, cell_below h5 hb, cell_below h6 hb, cell_below h7 hb, cell_below h8 hb, cell_below h9 hb, cell_below h10 hb, cell_below h11 hb, cell_below h12 hb, cell_below h13 hb, cell_below h14 hb⟩
set_option maxHeartbeats 6400000 in
theorem is4_any (base base2 : Nat) (V V2 : Value) (ts : List Tri) (w : World) (h : TriRow w base V ts) (h2 : RTriRow w base2 V2 ts) (hk : ∀ t ∈ ts, KeyTri t) (hl : ts.length ≤ 100000) :
    Calls Try.prog 24 #[V, V2] w fun e w' => e = .returned (.bool true) ∧ Below w.heap.size w w' := by
  obtain ⟨a, cap, rfl⟩ := h.form
  obtain ⟨b, cap2, rfl⟩ := h2.form
  have HR := Lib.hid h
  have HR2 := Lib.hid h2
  have HK := Lib.hid (fun (j : Nat) (hj : j < ts.length) => hk _ (List.getElem_mem hj))
  have hl0 : ts.length ≤ 9223372036854775807 := by omega
  clear h h2 hk hl
  go_enter Try.func24, Try.ntmps24
  go_wp2_with fail
  go_loopw [13] (fun i wr => ∃ k : Nat, k ≤ ts.length ∧ i = .int .i64 k ∧ Below w.heap.size w wr) (fun i _ => ts.length - (intOf i).toNat)
  case atStart => exact ⟨0, by omega, rfl, Below.refl _ _⟩
  case round =>
    obtain ⟨k, hk, rfl, hb⟩ := hrel
    by_cases hlt : k < ts.length
    · obtain ⟨g, c1, hv, hg, a0, a1, a2⟩ := tri_at (HR.out.below hb) k hlt
      obtain ⟨h, c2, hv2, hg2, b0, b1, b2, b3, b4, b5, b6, b7, b8, b9, b10, b11⟩ := rtri_at (HR2.out.below hb) k hlt
      obtain rfl : a = some ⟨g, 0, none⟩ := by injection hv
      obtain rfl : b = some ⟨h, 0, none⟩ := by injection hv2
      have hkt := HK.out k hlt
      have HF1 := Lib.hid (fun w => ref_any (ts[k]'hlt).s hkt.1 w)
      have HF2 := Lib.hid (fun w => ref_any (ts[k]'hlt).p hkt.2.1 w)
      have HF3 := Lib.hid (fun w => ref_any (ts[k]'hlt).o hkt.2.2 w)
      have QE1 := neq_refT (ts[k]'hlt).s
      have QE2 := neq_refT (ts[k]'hlt).p
      have QE3 := neq_refT (ts[k]'hlt).o
      have HB := Lib.hid hb
      have i1 : (0 : Int) ≤ (k : Int) := by omega
      have i2 : (k : Int) < (ts.length : Int) := by omega
      clear hv hv2 hkt hb
      unfold refT at HF1 HF2 HF3 QE1 QE2 QE3
      generalize kindV (ts[k]'hlt).s = k1 at *
      generalize text0 (ts[k]'hlt).s = s1 at *
      generalize text1 (ts[k]'hlt).s = t1 at *
      generalize text2 (ts[k]'hlt).s = l1 at *
      generalize tmV (ts[k]'hlt).s = xs at *
      generalize kindV (ts[k]'hlt).p = k2 at *
      generalize text0 (ts[k]'hlt).p = s2 at *
      generalize text1 (ts[k]'hlt).p = t2 at *
      generalize text2 (ts[k]'hlt).p = l2 at *
      generalize tmV (ts[k]'hlt).p = xp at *
      generalize kindV (ts[k]'hlt).o = k3 at *
      generalize text0 (ts[k]'hlt).o = s3 at *
      generalize text1 (ts[k]'hlt).o = t3 at *
      generalize text2 (ts[k]'hlt).o = l3 at *
      generalize tmV (ts[k]'hlt).o = xo at *
      have QG1 : ∀ w, (Go.eqGuard BinOp.neq 31 (.tmp 21) (.tmp 26) (.agg #[.int .i64 k1, .string s1, .string t1, .string l1]) (.agg #[.int .i64 k1, .string s1, .string t1, .string l1])).run Try.prog w = .ok () w := fun w => by kernel_rfl
      have QG2 : ∀ w, (Go.eqGuard BinOp.neq 31 (.tmp 34) (.tmp 39) (.agg #[.int .i64 k2, .string s2, .string t2, .string l2]) (.agg #[.int .i64 k2, .string s2, .string t2, .string l2])).run Try.prog w = .ok () w := fun w => by kernel_rfl
      have QG3 : ∀ w, (Go.eqGuard BinOp.neq 31 (.tmp 48) (.tmp 53) (.agg #[.int .i64 k3, .string s3, .string t3, .string l3]) (.agg #[.int .i64 k3, .string s3, .string t3, .string l3])).run Try.prog w = .ok () w := fun w => by kernel_rfl
      go_wp2_with fail
      refine wp_region_held_drew (S := (fun w' => w'.cell? ⟨g, k * 3, none⟩ = some (xs) ∧ w'.cell? ⟨g, k * 3 + 1, none⟩ = some (xp) ∧ w'.cell? ⟨g, k * 3 + 2, none⟩ = some (xo) ∧ w'.cell? ⟨h, k * 12, none⟩ = some (.int .i64 k1) ∧ w'.cell? ⟨h, k * 12 + 1, none⟩ = some (.string s1) ∧ w'.cell? ⟨h, k * 12 + 2, none⟩ = some (.string t1) ∧ w'.cell? ⟨h, k * 12 + 3, none⟩ = some (.string l1) ∧ w'.cell? ⟨h, k * 12 + 4, none⟩ = some (.int .i64 k2) ∧ w'.cell? ⟨h, k * 12 + 5, none⟩ = some (.string s2) ∧ w'.cell? ⟨h, k * 12 + 6, none⟩ = some (.string t2) ∧ w'.cell? ⟨h, k * 12 + 7, none⟩ = some (.string l2) ∧ w'.cell? ⟨h, k * 12 + 8, none⟩ = some (.int .i64 k3) ∧ w'.cell? ⟨h, k * 12 + 9, none⟩ = some (.string s3) ∧ w'.cell? ⟨h, k * 12 + 10, none⟩ = some (.string t3) ∧ w'.cell? ⟨h, k * 12 + 11, none⟩ = some (.string l3))) (by kernel_rfl) ?hSis0 (fun hHeld => ?_)
      case hSis0 => exact ⟨a0, a1, a2, b0, b1, b2, b3, b4, b5, b6, b7, b8, b9, b10, b11⟩
      refine wpAnyH_take (i := 0) (oi := ⟨some 16, _, _, _, _, _⟩) (v := ?vis0) rfl (by kernel_rfl) (by kernel_rfl) (by kernel_rfl) (fun _ _ _ h => h) (Or.inl ⟨by kernel_rfl, ?yis0⟩) (by assumption) ?ris0
      case yis0 =>
        intro w hSw
        try dsimp only at hSw
        first | (go_simp; done) | (go_simp; with_reducible rfl)
      try simp only [Act.put, List.setIfInBounds_toArray, List.set_cons_zero, List.set_cons_succ]
      refine wpAnyH_take (i := 1) (oi := ⟨some 17, _, _, _, _, _⟩) (v := ?vis1) rfl (by kernel_rfl) (by kernel_rfl) (by kernel_rfl) (fun _ _ _ h => h) (Or.inl ⟨by kernel_rfl, ?yis1⟩) (by assumption) ?ris1
      case yis1 =>
        intro w hSw
        try dsimp only at hSw
        first | (go_simp; done) | (go_simp; with_reducible rfl)
      try simp only [Act.put, List.setIfInBounds_toArray, List.set_cons_zero, List.set_cons_succ]
      refine wpAnyH_take (i := 2) (oi := ⟨some 18, _, _, _, _, _⟩) (v := ?vis2) rfl (by kernel_rfl) (by kernel_rfl) (by kernel_rfl) (fun _ _ _ h => h) (Or.inl ⟨by kernel_rfl, ?yis2⟩) (by assumption) ?ris2
      case yis2 =>
        intro w hSw
        try dsimp only at hSw
        first | (go_simp; done) | (go_simp; with_reducible rfl)
      try simp only [Act.put, List.setIfInBounds_toArray, List.set_cons_zero, List.set_cons_succ]
      refine wpAnyH_take (i := 3) (oi := ⟨some 19, _, _, _, _, _⟩) (v := ?vis3) rfl (by kernel_rfl) (by kernel_rfl) (by kernel_rfl) (fun _ _ _ h => h) (Or.inl ⟨by kernel_rfl, ?yis3⟩) (by assumption) ?ris3
      case yis3 =>
        intro w hSw
        try dsimp only at hSw
        first | (go_simp; done) | (go_simp; with_reducible rfl)
      try simp only [Act.put, List.setIfInBounds_toArray, List.set_cons_zero, List.set_cons_succ]
      refine wpAnyH_take (i := 4) (oi := ⟨some 20, _, _, _, _, _⟩) (v := ?vis4) rfl (by kernel_rfl) (by kernel_rfl) (by kernel_rfl) (fun _ _ _ h => h) (Or.inl ⟨by kernel_rfl, ?yis4⟩) (by assumption) ?ris4
      case yis4 =>
        intro w hSw
        try dsimp only at hSw
        first | (go_simp; done) | (go_simp; with_reducible rfl)
      try simp only [Act.put, List.setIfInBounds_toArray, List.set_cons_zero, List.set_cons_succ]
      refine wpAnyH_take (i := 6) (oi := ⟨some 22, _, _, _, _, _⟩) (v := ?vis6) rfl (by kernel_rfl) (by kernel_rfl) (by kernel_rfl) (fun _ _ _ h => h) (Or.inl ⟨by kernel_rfl, ?yis6⟩) (by assumption) ?ris6
      case yis6 =>
        intro w hSw
        try dsimp only at hSw
        first | (go_simp; done) | (go_simp; with_reducible rfl)
      try simp only [Act.put, List.setIfInBounds_toArray, List.set_cons_zero, List.set_cons_succ]
      refine wpAnyH_take (i := 7) (oi := ⟨some 23, _, _, _, _, _⟩) (v := ?vis7) rfl (by kernel_rfl) (by kernel_rfl) (by kernel_rfl) (fun _ _ _ h => h) (Or.inl ⟨by kernel_rfl, ?yis7⟩) (by assumption) ?ris7
      case yis7 =>
        intro w hSw
        try dsimp only at hSw
        first | (go_simp; done) | (go_simp; with_reducible rfl)
      try simp only [Act.put, List.setIfInBounds_toArray, List.set_cons_zero, List.set_cons_succ]
      refine wpAnyH_take (i := 8) (oi := ⟨some 24, _, _, _, _, _⟩) (v := ?vis8) rfl (by kernel_rfl) (by kernel_rfl) (by kernel_rfl) (fun _ _ _ h => h) (Or.inl ⟨by kernel_rfl, ?yis8⟩) (by assumption) ?ris8
      case yis8 =>
        intro w hSw
        try dsimp only at hSw
        first | (go_simp; done) | (go_simp; with_reducible rfl)
      try simp only [Act.put, List.setIfInBounds_toArray, List.set_cons_zero, List.set_cons_succ]
      refine wpAnyH_take (i := 9) (oi := ⟨some 25, _, _, _, _, _⟩) (v := ?vis9) rfl (by kernel_rfl) (by kernel_rfl) (by kernel_rfl) (fun _ _ _ h => h) (Or.inl ⟨by kernel_rfl, ?yis9⟩) (by assumption) ?ris9
      case yis9 =>
        intro w hSw
        try dsimp only at hSw
        first | (go_simp; done) | (go_simp; with_reducible rfl)
      try simp only [Act.put, List.setIfInBounds_toArray, List.set_cons_zero, List.set_cons_succ]
      refine wpAnyH_take (i := 10) (oi := ⟨some 26, _, _, _, _, _⟩) (v := ?vis10) rfl (by kernel_rfl) (by kernel_rfl) (by kernel_rfl) (fun _ _ _ h => h) (Or.inl ⟨by kernel_rfl, ?yis10⟩) (by assumption) ?ris10
      case yis10 =>
        intro w hSw
        try dsimp only at hSw
        first | (go_simp; done) | (go_simp; with_reducible rfl)
      try simp only [Act.put, List.setIfInBounds_toArray, List.set_cons_zero, List.set_cons_succ]
      refine wpAnyH_ready (rs := [5]) (by kernel_rfl) (by simp) ?_
      refine AllReadyH.cons (i := 5) (o := ⟨some 21, _, _, _, _, _⟩) rfl (fun K hK => ?_) AllReadyH.nil
      go_simp
      refine (HF1.out _).mono ?_
      rintro e w1 ⟨rfl, hb1⟩
      replace HB := Lib.hid (HB.out.drew.trans (hb1.mono (show w.heap.size ≤ wr.drew.heap.size from HB.out.size)))
      go_wp2_with fail
      refine hK.out _ _ ?_ (fun hHeld => ?_)
      · exact kept15 (by assumption) hb1
      clear hK K
      try simp only [Act.put, List.setIfInBounds_toArray, List.set_cons_zero, List.set_cons_succ]
      refine wpAnyH_take (i := 11) (oi := ⟨some 27, _, _, _, _, _⟩) (v := ?vis11) rfl (by kernel_rfl) (by kernel_rfl) (by kernel_rfl) (fun _ _ _ h => h) (Or.inl ⟨by kernel_rfl, ?yis11⟩) (by assumption) ?ris11
      case yis11 =>
        intro w hSw
        try dsimp only at hSw
        first | (go_simp; done) | (go_simp; with_reducible rfl)
      try simp only [Act.put, List.setIfInBounds_toArray, List.set_cons_zero, List.set_cons_succ]
      refine wpAnyH_take (i := 12) (oi := ⟨some 28, _, _, _, _, _⟩) (v := ?vis12) rfl (by kernel_rfl) (by kernel_rfl) (by kernel_rfl) (fun _ _ _ h => h) (Or.inl ⟨by kernel_rfl, ?yis12⟩) (by assumption) ?ris12
      case yis12 =>
        intro w hSw
        try dsimp only at hSw
        first | (go_simp; done) | (go_simp; with_reducible rfl)
      try simp only [Act.put, List.setIfInBounds_toArray, List.set_cons_zero, List.set_cons_succ]
      refine wpAnyH_take (i := 13) (oi := ⟨some 29, _, _, _, _, _⟩) (v := ?vis13) rfl (by kernel_rfl) (by kernel_rfl) (by kernel_rfl) (fun _ _ _ h => h) (Or.inl ⟨by kernel_rfl, ?yis13⟩) (by assumption) ?ris13
      case yis13 =>
        intro w hSw
        try dsimp only at hSw
        first | (go_simp; done) | (go_simp; with_reducible rfl)
      try simp only [Act.put, List.setIfInBounds_toArray, List.set_cons_zero, List.set_cons_succ]
      refine wpAnyH_take (i := 14) (oi := ⟨some 30, _, _, _, _, _⟩) (v := ?vis14) rfl (by kernel_rfl) (by kernel_rfl) (by kernel_rfl) (fun _ _ _ h => h) (Or.inl ⟨by kernel_rfl, ?yis14⟩) (by assumption) ?ris14
      case yis14 =>
        intro w hSw
        try dsimp only at hSw
        first | (go_simp; done) | (go_simp; with_reducible rfl)
      try simp only [Act.put, List.setIfInBounds_toArray, List.set_cons_zero, List.set_cons_succ]
      refine wpAnyH_take (i := 15) (oi := ⟨some 31, _, _, _, _, _⟩) (v := ?vis15) rfl (by kernel_rfl) (by kernel_rfl) (by kernel_rfl) (fun _ _ _ h => h) (Or.inl ⟨by kernel_rfl, ?yis15⟩) (by assumption) ?ris15
      case yis15 =>
        intro w hSw
        try dsimp only at hSw
        first | (go_simp; done) | (go_simp; with_reducible rfl)
      try simp only [Act.put, List.setIfInBounds_toArray, List.set_cons_zero, List.set_cons_succ]
      refine wpAnyH_take (i := 16) (oi := ⟨some 32, _, _, _, _, _⟩) (v := ?vis16) rfl (by kernel_rfl) (by kernel_rfl) (by kernel_rfl) (fun _ _ _ h => h) (Or.inl ⟨by kernel_rfl, ?yis16⟩) (by assumption) ?ris16
      case yis16 =>
        intro w hSw
        try dsimp only at hSw
        first | (go_simp; done) | (go_simp; with_reducible rfl)
      try simp only [Act.put, List.setIfInBounds_toArray, List.set_cons_zero, List.set_cons_succ]
      refine wpAnyH_take (i := 17) (oi := ⟨some 33, _, _, _, _, _⟩) (v := ?vis17) rfl (by kernel_rfl) (by kernel_rfl) (by kernel_rfl) (fun _ _ _ h => h) (Or.inl ⟨by kernel_rfl, ?yis17⟩) (by assumption) ?ris17
      case yis17 =>
        intro w hSw
        try dsimp only at hSw
        first | (go_simp; done) | (go_simp; with_reducible rfl)
      try simp only [Act.put, List.setIfInBounds_toArray, List.set_cons_zero, List.set_cons_succ]
      refine wpAnyH_take (i := 19) (oi := ⟨some 35, _, _, _, _, _⟩) (v := ?vis19) rfl (by kernel_rfl) (by kernel_rfl) (by kernel_rfl) (fun _ _ _ h => h) (Or.inl ⟨by kernel_rfl, ?yis19⟩) (by assumption) ?ris19
      case yis19 =>
        intro w hSw
        try dsimp only at hSw
        first | (go_simp; done) | (go_simp; with_reducible rfl)
      try simp only [Act.put, List.setIfInBounds_toArray, List.set_cons_zero, List.set_cons_succ]
      refine wpAnyH_take (i := 20) (oi := ⟨some 36, _, _, _, _, _⟩) (v := ?vis20) rfl (by kernel_rfl) (by kernel_rfl) (by kernel_rfl) (fun _ _ _ h => h) (Or.inl ⟨by kernel_rfl, ?yis20⟩) (by assumption) ?ris20
      case yis20 =>
        intro w hSw
        try dsimp only at hSw
        first | (go_simp; done) | (go_simp; with_reducible rfl)
      try simp only [Act.put, List.setIfInBounds_toArray, List.set_cons_zero, List.set_cons_succ]
      refine wpAnyH_take (i := 21) (oi := ⟨some 37, _, _, _, _, _⟩) (v := ?vis21) rfl (by kernel_rfl) (by kernel_rfl) (by kernel_rfl) (fun _ _ _ h => h) (Or.inl ⟨by kernel_rfl, ?yis21⟩) (by assumption) ?ris21
      case yis21 =>
        intro w hSw
        try dsimp only at hSw
        first | (go_simp; done) | (go_simp; with_reducible rfl)
      try simp only [Act.put, List.setIfInBounds_toArray, List.set_cons_zero, List.set_cons_succ]
      refine wpAnyH_take (i := 22) (oi := ⟨some 38, _, _, _, _, _⟩) (v := ?vis22) rfl (by kernel_rfl) (by kernel_rfl) (by kernel_rfl) (fun _ _ _ h => h) (Or.inl ⟨by kernel_rfl, ?yis22⟩) (by assumption) ?ris22
      case yis22 =>
        intro w hSw
        try dsimp only at hSw
        first | (go_simp; done) | (go_simp; with_reducible rfl)
      try simp only [Act.put, List.setIfInBounds_toArray, List.set_cons_zero, List.set_cons_succ]
      refine wpAnyH_take (i := 23) (oi := ⟨some 39, _, _, _, _, _⟩) (v := ?vis23) rfl (by kernel_rfl) (by kernel_rfl) (by kernel_rfl) (fun _ _ _ h => h) (Or.inl ⟨by kernel_rfl, ?yis23⟩) (by assumption) ?ris23
      case yis23 =>
        intro w hSw
        try dsimp only at hSw
        first | (go_simp; done) | (go_simp; with_reducible rfl)
      try simp only [Act.put, List.setIfInBounds_toArray, List.set_cons_zero, List.set_cons_succ]
      refine wpAnyH_ready (rs := [18]) (by kernel_rfl) (by simp) ?_
      refine AllReadyH.cons (i := 18) (o := ⟨some 34, _, _, _, _, _⟩) rfl (fun K hK => ?_) AllReadyH.nil
      go_simp
      refine (HF2.out _).mono ?_
      rintro e w2 ⟨rfl, hb2⟩
      replace HB := Lib.hid (HB.out.trans (hb2.mono HB.out.size))
      go_wp2_with fail
      refine hK.out _ _ ?_ (fun hHeld => ?_)
      · exact kept15 (by assumption) hb2
      clear hK K
      try simp only [Act.put, List.setIfInBounds_toArray, List.set_cons_zero, List.set_cons_succ]
      refine wpAnyH_take (i := 24) (oi := ⟨some 40, _, _, _, _, _⟩) (v := ?vis24) rfl (by kernel_rfl) (by kernel_rfl) (by kernel_rfl) (fun _ _ _ h => h) (Or.inl ⟨by kernel_rfl, ?yis24⟩) (by assumption) ?ris24
      case yis24 =>
        intro w hSw
        try dsimp only at hSw
        first | (go_simp; done) | (go_simp; with_reducible rfl)
      try simp only [Act.put, List.setIfInBounds_toArray, List.set_cons_zero, List.set_cons_succ]
      refine wpAnyH_take (i := 25) (oi := ⟨some 41, _, _, _, _, _⟩) (v := ?vis25) rfl (by kernel_rfl) (by kernel_rfl) (by kernel_rfl) (fun _ _ _ h => h) (Or.inl ⟨by kernel_rfl, ?yis25⟩) (by assumption) ?ris25
      case yis25 =>
        intro w hSw
        try dsimp only at hSw
        first | (go_simp; done) | (go_simp; with_reducible rfl)
      try simp only [Act.put, List.setIfInBounds_toArray, List.set_cons_zero, List.set_cons_succ]
      refine wpAnyH_take (i := 26) (oi := ⟨some 42, _, _, _, _, _⟩) (v := ?vis26) rfl (by kernel_rfl) (by kernel_rfl) (by kernel_rfl) (fun _ _ _ h => h) (Or.inl ⟨by kernel_rfl, ?yis26⟩) (by assumption) ?ris26
      case yis26 =>
        intro w hSw
        try dsimp only at hSw
        first | (go_simp; done) | (go_simp; with_reducible rfl)
      try simp only [Act.put, List.setIfInBounds_toArray, List.set_cons_zero, List.set_cons_succ]
      refine wpAnyH_take (i := 27) (oi := ⟨some 43, _, _, _, _, _⟩) (v := ?vis27) rfl (by kernel_rfl) (by kernel_rfl) (by kernel_rfl) (fun _ _ _ h => h) (Or.inl ⟨by kernel_rfl, ?yis27⟩) (by assumption) ?ris27
      case yis27 =>
        intro w hSw
        try dsimp only at hSw
        first | (go_simp; done) | (go_simp; with_reducible rfl)
      try simp only [Act.put, List.setIfInBounds_toArray, List.set_cons_zero, List.set_cons_succ]
      refine wpAnyH_take (i := 28) (oi := ⟨some 44, _, _, _, _, _⟩) (v := ?vis28) rfl (by kernel_rfl) (by kernel_rfl) (by kernel_rfl) (fun _ _ _ h => h) (Or.inl ⟨by kernel_rfl, ?yis28⟩) (by assumption) ?ris28
      case yis28 =>
        intro w hSw
        try dsimp only at hSw
        first | (go_simp; done) | (go_simp; with_reducible rfl)
      try simp only [Act.put, List.setIfInBounds_toArray, List.set_cons_zero, List.set_cons_succ]
      refine wpAnyH_take (i := 29) (oi := ⟨some 45, _, _, _, _, _⟩) (v := ?vis29) rfl (by kernel_rfl) (by kernel_rfl) (by kernel_rfl) (fun _ _ _ h => h) (Or.inl ⟨by kernel_rfl, ?yis29⟩) (by assumption) ?ris29
      case yis29 =>
        intro w hSw
        try dsimp only at hSw
        first | (go_simp; done) | (go_simp; with_reducible rfl)
      try simp only [Act.put, List.setIfInBounds_toArray, List.set_cons_zero, List.set_cons_succ]
      refine wpAnyH_take (i := 30) (oi := ⟨some 46, _, _, _, _, _⟩) (v := ?vis30) rfl (by kernel_rfl) (by kernel_rfl) (by kernel_rfl) (fun _ _ _ h => h) (Or.inl ⟨by kernel_rfl, ?yis30⟩) (by assumption) ?ris30
      case yis30 =>
        intro w hSw
        try dsimp only at hSw
        first | (go_simp; done) | (go_simp; with_reducible rfl)
      try simp only [Act.put, List.setIfInBounds_toArray, List.set_cons_zero, List.set_cons_succ]
      refine wpAnyH_take (i := 31) (oi := ⟨some 47, _, _, _, _, _⟩) (v := ?vis31) rfl (by kernel_rfl) (by kernel_rfl) (by kernel_rfl) (fun _ _ _ h => h) (Or.inl ⟨by kernel_rfl, ?yis31⟩) (by assumption) ?ris31
      case yis31 =>
        intro w hSw
        try dsimp only at hSw
        first | (go_simp; done) | (go_simp; with_reducible rfl)
      try simp only [Act.put, List.setIfInBounds_toArray, List.set_cons_zero, List.set_cons_succ]
      refine wpAnyH_take (i := 33) (oi := ⟨some 49, _, _, _, _, _⟩) (v := ?vis33) rfl (by kernel_rfl) (by kernel_rfl) (by kernel_rfl) (fun _ _ _ h => h) (Or.inl ⟨by kernel_rfl, ?yis33⟩) (by assumption) ?ris33
      case yis33 =>
        intro w hSw
        try dsimp only at hSw
        first | (go_simp; done) | (go_simp; with_reducible rfl)
      try simp only [Act.put, List.setIfInBounds_toArray, List.set_cons_zero, List.set_cons_succ]
      refine wpAnyH_take (i := 34) (oi := ⟨some 50, _, _, _, _, _⟩) (v := ?vis34) rfl (by kernel_rfl) (by kernel_rfl) (by kernel_rfl) (fun _ _ _ h => h) (Or.inl ⟨by kernel_rfl, ?yis34⟩) (by assumption) ?ris34
      case yis34 =>
        intro w hSw
        try dsimp only at hSw
        first | (go_simp; done) | (go_simp; with_reducible rfl)
      try simp only [Act.put, List.setIfInBounds_toArray, List.set_cons_zero, List.set_cons_succ]
      refine wpAnyH_take (i := 35) (oi := ⟨some 51, _, _, _, _, _⟩) (v := ?vis35) rfl (by kernel_rfl) (by kernel_rfl) (by kernel_rfl) (fun _ _ _ h => h) (Or.inl ⟨by kernel_rfl, ?yis35⟩) (by assumption) ?ris35
      case yis35 =>
        intro w hSw
        try dsimp only at hSw
        first | (go_simp; done) | (go_simp; with_reducible rfl)
      try simp only [Act.put, List.setIfInBounds_toArray, List.set_cons_zero, List.set_cons_succ]
      refine wpAnyH_take (i := 36) (oi := ⟨some 52, _, _, _, _, _⟩) (v := ?vis36) rfl (by kernel_rfl) (by kernel_rfl) (by kernel_rfl) (fun _ _ _ h => h) (Or.inl ⟨by kernel_rfl, ?yis36⟩) (by assumption) ?ris36
      case yis36 =>
        intro w hSw
        try dsimp only at hSw
        first | (go_simp; done) | (go_simp; with_reducible rfl)
      try simp only [Act.put, List.setIfInBounds_toArray, List.set_cons_zero, List.set_cons_succ]
      refine wpAnyH_take (i := 37) (oi := ⟨some 53, _, _, _, _, _⟩) (v := ?vis37) rfl (by kernel_rfl) (by kernel_rfl) (by kernel_rfl) (fun _ _ _ h => h) (Or.inl ⟨by kernel_rfl, ?yis37⟩) (by assumption) ?ris37
      case yis37 =>
        intro w hSw
        try dsimp only at hSw
        first | (go_simp; done) | (go_simp; with_reducible rfl)
      try simp only [Act.put, List.setIfInBounds_toArray, List.set_cons_zero, List.set_cons_succ]
      refine wpAnyH_ready (rs := [32]) (by kernel_rfl) (by simp) ?_
      refine AllReadyH.cons (i := 32) (o := ⟨some 48, _, _, _, _, _⟩) rfl (fun K hK => ?_) AllReadyH.nil
      go_simp
      refine (HF3.out _).mono ?_
      rintro e w3 ⟨rfl, hb3⟩
      replace HB := Lib.hid (HB.out.trans (hb3.mono HB.out.size))
      go_wp2_with fail
      refine hK.out _ _ ?_ (fun hHeld => ?_)
      · exact kept15 (by assumption) hb3
      clear hK K
      try simp only [Act.put, List.setIfInBounds_toArray, List.set_cons_zero, List.set_cons_succ]
      refine wpAnyH_take (i := 38) (oi := ⟨some 54, _, _, _, _, _⟩) (v := ?vis38) rfl (by kernel_rfl) (by kernel_rfl) (by kernel_rfl) (fun _ _ _ h => h) (Or.inl ⟨by kernel_rfl, ?yis38⟩) (by assumption) ?ris38
      case yis38 =>
        intro w hSw
        try dsimp only at hSw
        first | (go_simp; done) | (go_simp; with_reducible rfl)
      try simp only [Act.put, List.setIfInBounds_toArray, List.set_cons_zero, List.set_cons_succ]
      refine wpAnyH_take (i := 39) (oi := ⟨some 55, _, _, _, _, _⟩) (v := ?vis39) rfl (by kernel_rfl) (by kernel_rfl) (by kernel_rfl) (fun _ _ _ h => h) (Or.inl ⟨by kernel_rfl, ?yis39⟩) (by assumption) ?ris39
      case yis39 =>
        intro w hSw
        try dsimp only at hSw
        first | (go_simp; done) | (go_simp; with_reducible rfl)
      try simp only [Act.put, List.setIfInBounds_toArray, List.set_cons_zero, List.set_cons_succ]
      refine wpAnyH_done (by kernel_rfl) ?_ _
      go_wp2_with fail
      exact ⟨⟨k + 1, by omega, by push_cast; rfl, HB.out⟩, by simp only [intOf]; omega⟩
    · have t1 : decide (k < ts.length) = false := decide_eq_false hlt
      have HB := Lib.hid hb
      clear hb
      go_wp2_with fail
      go_ret
      exact ⟨rfl, HB.out⟩
end Go.Proofs.Ytghimladdioajaa
