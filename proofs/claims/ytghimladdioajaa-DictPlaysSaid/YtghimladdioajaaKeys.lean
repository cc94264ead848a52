/- A key is itself: == on dict.Key. What Key and Triple of a dictionary do, by plain functions; their plain laws. No program is walked here. Contract over this seat's program: package dict's Key. Contract over this seat's program: package dict's Triple. -/
import Derived.Test.YtghimladdioajaaDcMap
import Derived.ChangeKeysEq
import Derived.Test.YtghimladdioajaaDcTwice
import Derived.Test.YtghimladdioajaaDcOrder
import Derived.Test.YtghimladdioajaaTris
namespace Go.Proofs.Ytghimladdioajaa
open Go Go.RowKit
set_option linter.unusedVariables false
set_option linter.unusedSimpArgs false
set_option maxRecDepth 100000
theorem eq_key (a b c : Int) (w : World) : (Op.equalIn 10000 54 (.agg #[.int .i64 a, .int .i64 b, .int .i64 c]) (.agg #[.int .i64 a, .int .i64 b, .int .i64 c])).run Try.prog w = .ok true w := by
  obtain ⟨i, hi⟩ : ∃ i, Try.prog.info? 3 = some i := by
    cases h : Try.prog.info? 3 with
    | some i => exact ⟨i, rfl⟩
    | none =>
      have h2 : (Try.prog.info? 3).isSome = true := by kernel_rfl
      rw [h] at h2
      cases h2
  have hc : Try.prog.cellsOf 3 = 1 := by kernel_rfl
  rw [run_equalIn_array w 9999 _ _ Try.underlying54 hi, hc]
  have p0 : ∀ w, (part 3 #[.int .i64 a, .int .i64 b, .int .i64 c] 0).run Try.prog w = .ok (.int .i64 a) w := fun w => by kernel_rfl
  have p1 : ∀ w, (part 3 #[.int .i64 a, .int .i64 b, .int .i64 c] 1).run Try.prog w = .ok (.int .i64 b) w := fun w => by kernel_rfl
  have p2 : ∀ w, (part 3 #[.int .i64 a, .int .i64 b, .int .i64 c] 2).run Try.prog w = .ok (.int .i64 c) w := fun w => by kernel_rfl
  have q : ∀ x w, (Op.equalIn 9999 3 (.int .i64 x) (.int .i64 x)).run Try.prog w = .ok true w := fun x w => by
    rw [run_equalIn_int w 9998 _ .i64 .i64 x x Try.underlying3]
    simp
  rw [show List.range 3 = [0, 1, 2] from rfl]
  simp only [Op.eqItems, Nat.mul_one, Sem.run_bind, p0, p1, p2, q, Result.andThen_ok, Bool.not_true, Bool.false_eq_true, if_false, Sem.run_pure]
end Go.Proofs.Ytghimladdioajaa
namespace Go.Proofs.Ytghimladdioajaa
open Go Go.RowKit
set_option linter.unusedVariables false
set_option linter.unusedSimpArgs false
/-- what Key does: the terms behind it, the three numbers, the error -/
def keyT (G : Tm → Bool) (room : Int) (ts : List Tm) (t : Tri) : List Tm × (Int × Int × Int) × Int :=
  if goodTri G t = false then (ts, (0, 0, 0), 3) else
  if (putT G room ts t.s).2.2 ≠ 0 then (ts, (0, 0, 0), (putT G room ts t.s).2.2) else
  if (putT G room (putT G room ts t.s).1 t.p).2.2 ≠ 0 then (ts, (0, 0, 0), (putT G room (putT G room ts t.s).1 t.p).2.2) else
  if (putT G room (putT G room (putT G room ts t.s).1 t.p).1 t.o).2.2 ≠ 0 then (ts, (0, 0, 0), (putT G room (putT G room (putT G room ts t.s).1 t.p).1 t.o).2.2) else
  ((putT G room (putT G room (putT G room ts t.s).1 t.p).1 t.o).1, ((putT G room ts t.s).2.1, (putT G room (putT G room ts t.s).1 t.p).2.1, (putT G room (putT G room (putT G room ts t.s).1 t.p).1 t.o).2.1), 0)
theorem goodTri_all {G : Tm → Bool} {t : Tri} (h : goodTri G t = true) : G t.s = true ∧ G t.p = true ∧ G t.o = true := by
  unfold goodTri subG prdG at h
  simp only [Bool.and_eq_true] at h
  exact ⟨h.1.1.1, h.1.2.1, h.2⟩
theorem putT_new {G : Tm → Bool} {room : Int} {ts : List Tm} {x : Tm} (hx : KeyT x) (hg : G x = true) (hr : (ts.length : Int) < room) :
    ∃ (j : Nat) (us : List Tm), putT G room ts x = (ts ++ us, (j : Int), 0) ∧ idxT x (ts ++ us) = some j ∧ us.length ≤ 1 := by
  unfold putT
  rw [if_neg (by simp [hg])]
  cases hi : idxT x ts with
  | some j => exact ⟨j, [], by simp, by simpa using hi, by simp⟩
  | none =>
    refine ⟨ts.length, [x], ?_, idx_last hx hi, by simp⟩
    dsimp only
    rw [if_neg (by omega)]
theorem putT_idem {G : Tm → Bool} {room : Int} {ts : List Tm} {x : Tm} {j : Nat} (hg : G x = true) (h : idxT x ts = some j) : putT G room ts x = (ts, (j : Int), 0) := by
  unfold putT
  rw [if_neg (by simp [hg]), h]
/-- a good triple's key, in a dictionary with room: its terms are there then; again it is the same -/
theorem key_full {G : Tm → Bool} {room : Int} {ts : List Tm} {t : Tri} (hk : KeyTri t) (hg : goodTri G t = true) (hr : (ts.length : Int) + 3 ≤ room) :
    ∃ (T : List Tm) (j0 j1 j2 : Nat), keyT G room ts t = (T, ((j0 : Int), (j1 : Int), (j2 : Int)), 0) ∧ idxT t.s T = some j0 ∧ idxT t.p T = some j1 ∧ idxT t.o T = some j2 ∧ T.length ≤ ts.length + 3 ∧ keyT G room T t = (T, ((j0 : Int), (j1 : Int), (j2 : Int)), 0) := by
  obtain ⟨g0, g1, g2⟩ := goodTri_all hg
  obtain ⟨j0, u0, e0, i0, l0⟩ := putT_new (room := room) (ts := ts) hk.1 g0 (by omega)
  obtain ⟨j1, u1, e1, i1, l1⟩ := putT_new (room := room) (ts := ts ++ u0) hk.2.1 g1 (by rw [List.length_append]; push_cast; omega)
  obtain ⟨j2, u2, e2, i2, l2⟩ := putT_new (room := room) (ts := ts ++ u0 ++ u1) hk.2.2 g2 (by rw [List.length_append, List.length_append]; push_cast; omega)
  have i0' : idxT t.s (ts ++ u0 ++ u1 ++ u2) = some j0 := idx_append (idx_append i0 _) _
  have i1' : idxT t.p (ts ++ u0 ++ u1 ++ u2) = some j1 := idx_append i1 _
  refine ⟨ts ++ u0 ++ u1 ++ u2, j0, j1, j2, ?_, i0', i1', i2, ?_, ?_⟩
  · unfold keyT
    rw [if_neg (by simp [hg]), e0, if_neg (by simp), e1, if_neg (by simp), e2, if_neg (by simp)]
  · simp only [List.length_append]
    omega
  · unfold keyT
    rw [if_neg (by simp [hg]), putT_idem g0 i0', if_neg (by simp), putT_idem g1 i1', if_neg (by simp), putT_idem g2 i2, if_neg (by simp)]
theorem idx_get {x : Tm} {ts : List Tm} {j : Nat} (h : idxT x ts = some j) : ∃ hj : j < ts.length, ts[j]'hj = x := by
  obtain ⟨hj, h1, _⟩ := List.findIdx?_eq_some_iff_getElem.1 h
  exact ⟨hj, (eqT_eq h1).symm⟩
/-- what Triple does: the triple, the error -/
def tripT (G : Tm → Bool) (ts : List Tm) (a b c : Int) : Tri × Int :=
  if hasN a ts.length && hasN b ts.length && hasN c ts.length then
    (if goodTri G ⟨ts.getD a.toNat .none, ts.getD b.toNat .none, ts.getD c.toNat .none⟩ then (⟨ts.getD a.toNat .none, ts.getD b.toNat .none, ts.getD c.toNat .none⟩, 0) else (⟨.none, .none, .none⟩, 3))
  else (⟨.none, .none, .none⟩, 4)
theorem trip_there {G : Tm → Bool} {ts : List Tm} {t : Tri} {a b c : Nat} (hg : goodTri G t = true) (ha : idxT t.s ts = some a) (hb : idxT t.p ts = some b) (hc : idxT t.o ts = some c) : tripT G ts a b c = (t, 0) := by
  obtain ⟨ha, e0⟩ := idx_get ha
  obtain ⟨hb, e1⟩ := idx_get hb
  obtain ⟨hc, e2⟩ := idx_get hc
  have d0 : ts.getD a .none = t.s := by rw [List.getD_eq_getElem?_getD, List.getElem?_eq_getElem ha, Option.getD_some, e0]
  have d1 : ts.getD b .none = t.p := by rw [List.getD_eq_getElem?_getD, List.getElem?_eq_getElem hb, Option.getD_some, e1]
  have d2 : ts.getD c .none = t.o := by rw [List.getD_eq_getElem?_getD, List.getElem?_eq_getElem hc, Option.getD_some, e2]
  unfold tripT
  rw [if_pos (by unfold hasN; simp [ha, hb, hc])]
  simp only [Int.toNat_natCast]
  rw [d0, d1, d2]
  rw [if_pos (by simpa using hg)]
theorem fine_key {G : Tm → Bool} {room : Int} {ts : List Tm} {t : Tri} (h : Fine G ts) (hk : KeyTri t) (hz : SmallTri t) : Fine G (keyT G room ts t).1 := by
  unfold keyT
  repeat' split
  all_goals first | exact h | exact fine_put (fine_put (fine_put h hk.1 hz.1) hk.2.1 hz.2.1) hk.2.2 hz.2.2
/-- a triple as it came in -/
def tri3 (r : Raw3) : Tri := ⟨rawK r.s, rawK r.p, rawK r.o⟩
def short3 (r : Raw3) : Bool := short5 r.s.x r.s.t r.s.l && short5 r.p.x r.p.t r.p.l && short5 r.o.x r.o.t r.o.l
theorem tri3_key (r : Raw3) : KeyTri (tri3 r) := ⟨termK_key _ _ _ _, termK_key _ _ _ _, termK_key _ _ _ _⟩
theorem tri3_small {r : Raw3} (h : short3 r = true) : SmallTri (tri3 r) := by
  unfold short3 at h
  simp only [Bool.and_eq_true] at h
  exact ⟨rawK_small h.1.1, rawK_small h.1.2, rawK_small h.2⟩
end Go.Proofs.Ytghimladdioajaa
namespace Go.Proofs.Ytghimladdioajaa
open Go Go.RowKit
set_option linter.unusedVariables false
set_option linter.unusedSimpArgs false
set_option maxRecDepth 100000
theorem DK.setCell {base p m b i : Nat} {w w' : World} (h : DK base p m w w') (hb : base ≤ w.heap.size) (hn : w.heap.size ≤ b) (v : Value) : DK base p m w (w'.setCell ⟨b, i, none⟩ v) := by
  refine ⟨h.1.setCell (p := ⟨b, i, none⟩) (Nat.le_trans hb hn) v, fun k o hk h1 h2 h3 => ?_⟩
  have := lt_heap hk
  exact (Below.heap_setCell w' ⟨b, i, none⟩ v k (by show k ≠ b; omega)).trans (h.2 k o hk h1 h2 h3)
theorem DK.below {base p m : Nat} {w w' w'' : World} (h : DK base p m w w') (hb : Below w'.heap.size w' w'') (hbase : base ≤ w'.heap.size) : DK base p m w w'' := h.trans (DK.of_below hb hbase)
theorem set3 {w : World} {b : Nat} {x y z : Value} {T : TypeId} (h : w.heap[b]? = some (.cells #[x, y, z] T (0, 0))) (i : Nat) (v : Value) : (w.setCell ⟨b, i, none⟩ v).heap[b]? = some (.cells (#[x, y, z].setIfInBounds i v) T (0, 0)) := by
  have hlt := lt_heap h
  have h' : w.heap[b] = .cells #[x, y, z] T (0, 0) := by simpa [Array.getElem?_eq_getElem hlt] using h
  show (w.heap.modify b _)[b]? = _
  rw [Array.getElem?_eq_getElem (by simpa using hlt), Array.getElem_modify_self, h']
  rfl
theorem key_iface {x : Tm} (h : KeyT x) : ∃ T Y, tmV x = .iface T Y := by
  cases x with
  | blank s => exact ⟨_, _, rfl⟩
  | iri s => exact ⟨_, _, rfl⟩
  | lit s t l => exact ⟨_, _, rfl⟩
  | odd n => exact h.elim
  | none => exact h.elim
/-- behind so many puts of Key: the dictionary, the result's block, the key's block -/
def KSt (base p m : Nat) (room : Int) (w : World) (r o : Nat) (T : List Tm) (a b c : Int) (wr : World) : Prop :=
  DcAt base p m T room wr ∧ DK base p m w wr ∧ Dist T ∧ wr.heap[r]? = some (.cells #[.int .i64 0, .int .i64 0, .int .i64 0] 54 (0, 0)) ∧ wr.heap[o]? = some (.cells #[.int .i64 a, .int .i64 b, .int .i64 c] 54 (0, 0))
section
variable {base p m : Nat} {room : Int} {w wr wr' : World} {r o : Nat} {T T' : List Tm} {a b c : Int}
theorem KSt.put (h : KSt base p m room w r o T a b c wr) (hd : DcAt base p m T' room wr') (hk : DK base p m wr wr') (hdist : Dist T') : KSt base p m room w r o T' a b c wr' :=
  ⟨hd, h.2.1.trans hk, hdist, h.1.box hk h.2.2.2.1 (by decide) (by decide), h.1.box hk h.2.2.2.2 (by decide) (by decide)⟩
theorem KSt.set (h : KSt base p m room w r o T a b c wr) (hb : base ≤ w.heap.size) (hn : w.heap.size ≤ o) (hro : r ≠ o) (i : Nat) (a' b' c' n : Int) (he : (#[.int .i64 a, .int .i64 b, .int .i64 c] : Array Value).setIfInBounds i (.int .i64 n) = #[.int .i64 a', .int .i64 b', .int .i64 c']) : KSt base p m room w r o T a' b' c' (wr.setCell ⟨o, i, none⟩ (.int .i64 n)) := by
  refine ⟨h.1.set h.2.2.2.2 (by decide) (by decide) _, h.2.1.setCell hb hn _, h.2.2.1, box_other (a := ⟨o, i, none⟩) h.2.2.2.1 (by exact hro), ?_⟩
  rw [set3 h.2.2.2.2, he]
theorem KSt.end3 (h : KSt base p m room w r o T a b c wr) (hb : base ≤ w.heap.size) (hn : w.heap.size ≤ r) (u v x : Value) : DcAt base p m T room (((wr.setCell ⟨r, 0, none⟩ u).setCell ⟨r, 1, none⟩ v).setCell ⟨r, 2, none⟩ x) ∧ DK base p m w (((wr.setCell ⟨r, 0, none⟩ u).setCell ⟨r, 1, none⟩ v).setCell ⟨r, 2, none⟩ x) := by
  have e1 := set3 h.2.2.2.1 0 u
  have e2 : ((wr.setCell ⟨r, 0, none⟩ u).setCell ⟨r, 1, none⟩ v).heap[r]? = _ := set3 e1 1 v
  exact ⟨((h.1.set h.2.2.2.1 (by decide) (by decide) _).set e1 (by decide) (by decide) _).set e2 (by decide) (by decide) _, ((h.2.1.setCell hb hn _).setCell hb hn _).setCell hb hn _⟩
end
theorem left_self {ts T : List Tm} (h : ∃ us, T = ts ++ us) : leftT ts.length T = ts.length ∧ T.take ts.length = ts := by
  obtain ⟨us, rfl⟩ := h
  refine ⟨by unfold leftT; rw [List.length_append]; push_cast; omega, by simp⟩
/-- what the law of Key tells -/
def KeyEnd (G : Tm → Bool) (base p m : Nat) (room : Int) (ts : List Tm) (t : Tri) (w : World) (e : Ending) (w' : World) : Prop :=
  e = .returned (.tuple #[.agg #[.int .i64 (keyT G room ts t).2.1.1, .int .i64 (keyT G room ts t).2.1.2.1, .int .i64 (keyT G room ts t).2.1.2.2], .int .i64 (keyT G room ts t).2.2]) ∧ DcAt base p m (keyT G room ts t).1 room w' ∧ DK base p m w w' ∧ Dist (keyT G room ts t).1
set_option maxHeartbeats 6400000 in
theorem key_any {G : Tm → Bool} (hG : GoodFn G) {w0 w : World} {p m : Nat} {ts : List Tm} {room : Int} (t : Tri) (hk : KeyTri t) (hz : SmallTri t) (hm : MaxV w0) (hb0 : Below w0.heap.size w0 w) (h : DcAt w0.heap.size p m ts room w) (hd : Dist ts) (hr : room ≤ 65536) :
    Calls Try.prog 20 #[.pointer (some ⟨p, 0, none⟩), triV t] w (KeyEnd G w0.heap.size p m room ts t w) := by
  have HB0 := Lib.hid hb0
  have HG := Lib.hid (tgood3_any hG t hz (w := (w.alloc (.cells #[tmV t.s, tmV t.p, tmV t.o] 58)).alloc (.cells #[.int .i64 0, .int .i64 0, .int .i64 0] 54)) (hm.below ((hb0.alloc hb0.size _).alloc (hb0.alloc hb0.size _).size _)))
  obtain ⟨W0, hW0⟩ : ∃ W0, W0 = (w.alloc (.cells #[tmV t.s, tmV t.p, tmV t.o] 58)).alloc (.cells #[.int .i64 0, .int .i64 0, .int .i64 0] 54) := ⟨_, rfl⟩
  rw [← hW0] at HG
  have hbw : Below w.heap.size w W0 := by rw [hW0]; go_grown
  have hbx : W0.heap[w.heap.size]? = some (.cells #[tmV t.s, tmV t.p, tmV t.o] 58 (0, 0)) := by rw [hW0]; exact box_alloc (box_new _ _ _)
  have hby : W0.heap[w.heap.size + 1]? = some (.cells #[.int .i64 0, .int .i64 0, .int .i64 0] 54 (0, 0)) := by
    rw [hW0]
    have := box_new (w.alloc (.cells #[tmV t.s, tmV t.p, tmV t.o] 58)) #[.int .i64 0, .int .i64 0, .int .i64 0] 54
    simpa using this
  have HH := Lib.hid (⟨hbw, hbx, hby⟩ : _ ∧ _ ∧ _)
  have HW0 := Lib.hid hW0
  obtain ⟨x0, x1, x2, x3⟩ := cells3 hbx
  have HD := Lib.hid h
  have HDI := Lib.hid hd
  clear hbw hbx hby hW0
  cases hgd : goodTri G t with
  | false =>
    have HKT : Hid (keyT G room ts t = (ts, (0, 0, 0), 3)) := Lib.hid (by unfold keyT; rw [if_pos hgd])
    rw [hgd] at HG
    unfold triV at HG ⊢
    clear hgd h hd hm hb0 hG hk hz
    go_enter Try.func20, Try.ntmps20
    go_wp2_with fail
    rw [← HW0.out]
    go_wp2_with fail
    refine HG.out.mono ?_
    rintro e w1 ⟨rfl, hb1⟩
    have HY := Lib.hid (box_below HH.out.2.2 hb1)
    have HB1 := Lib.hid (HH.out.1.trans (hb1.mono HH.out.1.size))
    obtain ⟨y0, y1, y2, y3⟩ := cells3 HY.out
    obtain ⟨y4, y5⟩ := froz3 HY.out
    clear hb1 x0 x1 x2 x3
    go_wp2_with fail
    refine bodyPost_ret (v := .tuple #[.agg #[.int .i64 0, .int .i64 0, .int .i64 0], .int .i64 3]) (by simp [results, Try.results20, go_sem, y0, y1, y2]) rfl ?_
    unfold KeyEnd
    rw [HKT.out]
    have hk1 : KSt w0.heap.size p m room w (w.heap.size + 1) (w.heap.size + 1) ts 0 0 0 w1 := ⟨HD.out.keep HB1.out, DK.of_below HB1.out HB0.out.size, HDI.out, HY.out, HY.out⟩
    have h5 := hk1.end3 HB0.out.size (Nat.le_succ _) (.int .i64 0) (.int .i64 0) (.int .i64 0)
    exact ⟨rfl, h5.1, h5.2, HDI.out⟩
  | true =>
    obtain ⟨T1, n0, c0, hp0⟩ : ∃ T n c, putT G room ts t.s = (T, n, c) := ⟨_, _, _, rfl⟩
    obtain ⟨T2, n1, c1, hp1⟩ : ∃ T n c, putT G room T1 t.p = (T, n, c) := ⟨_, _, _, rfl⟩
    obtain ⟨T3, n2, c2, hp2⟩ : ∃ T n c, putT G room T2 t.o = (T, n, c) := ⟨_, _, _, rfl⟩
    have HPRE0 : Hid (∃ us, T1 = ts ++ us) := Lib.hid (by have := putT_pre G room ts t.s; rw [hp0] at this; exact this)
    have HPRE1 : Hid (∃ us, T2 = ts ++ us) := Lib.hid (by
      obtain ⟨us, e1⟩ := HPRE0.out
      have := putT_pre G room T1 t.p
      rw [hp1] at this
      obtain ⟨vs, e2⟩ := this
      exact ⟨us ++ vs, by have e3 : T2 = T1 ++ vs := e2; rw [e3, e1, List.append_assoc]⟩)
    have HPRE2 : Hid (∃ us, T3 = ts ++ us) := Lib.hid (by
      obtain ⟨us, e1⟩ := HPRE1.out
      have := putT_pre G room T2 t.o
      rw [hp2] at this
      obtain ⟨vs, e2⟩ := this
      exact ⟨us ++ vs, by have e3 : T3 = T2 ++ vs := e2; rw [e3, e1, List.append_assoc]⟩)
    have HKE : Hid ((c0 ≠ 0 → keyT G room ts t = (ts, (0, 0, 0), c0)) ∧ (c0 = 0 → c1 ≠ 0 → keyT G room ts t = (ts, (0, 0, 0), c1)) ∧ (c0 = 0 → c1 = 0 → c2 ≠ 0 → keyT G room ts t = (ts, (0, 0, 0), c2)) ∧ (c0 = 0 → c1 = 0 → c2 = 0 → keyT G room ts t = (T3, (n0, n1, n2), 0))) := Lib.hid (by
      unfold keyT
      rw [if_neg (by simp [hgd]), hp0]
      dsimp only
      rw [hp1]
      dsimp only
      rw [hp2]
      dsimp only
      refine ⟨fun h0 => by rw [if_pos h0], fun h0 h1 => by rw [if_neg (by simp [h0]), if_pos h1], fun h0 h1 h2 => by rw [if_neg (by simp [h0]), if_neg (by simp [h1]), if_pos h2], fun h0 h1 h2 => by rw [if_neg (by simp [h0]), if_neg (by simp [h1]), if_neg (by simp [h2])]⟩)
    have HPU0 := Lib.hid (fun w1 {r o a b c} (h1 : KSt w0.heap.size p m room w r o ts a b c w1) => put_any hG t.s hz.1 (hm.below (hb0.trans h1.2.1.1)) h1.1 h1.2.2.1 hr (Nat.le_trans hb0.size h1.2.1.1.size))
    have HPU1 := Lib.hid (fun w1 {r o a b c} (h1 : KSt w0.heap.size p m room w r o T1 a b c w1) => put_any hG t.p hz.2.1 (hm.below (hb0.trans h1.2.1.1)) h1.1 h1.2.2.1 hr (Nat.le_trans hb0.size h1.2.1.1.size))
    have HPU2 := Lib.hid (fun w1 {r o a b c} (h1 : KSt w0.heap.size p m room w r o T2 a b c w1) => put_any hG t.o hz.2.2 (hm.below (hb0.trans h1.2.1.1)) h1.1 h1.2.2.1 hr (Nat.le_trans hb0.size h1.2.1.1.size))
    rw [hp0] at HPU0
    rw [hp1] at HPU1
    rw [hp2] at HPU2
    dsimp only at HPU0 HPU1 HPU2
    rw [hgd] at HG
    unfold triV at HG ⊢
    have hia := key_iface hk.1
    have hib := key_iface hk.2.1
    have hic := key_iface hk.2.2
    clear hgd h hd hm hb0 hG hk hz hp0 hp1 hp2
    generalize tmV t.s = xa at *
    generalize tmV t.p = xb at *
    generalize tmV t.o = xc at *
    obtain ⟨Ta, Ya, rfl⟩ := hia
    obtain ⟨Tb, Yb, rfl⟩ := hib
    obtain ⟨Tc, Yc, rfl⟩ := hic
    have hi0 : ∀ w, (Instr.index 99 (.agg #[.iface Ta Ya, .iface Tb Yb, .iface Tc Yc]) (.int .i64 0)).run Try.prog w = .ok (.iface Ta Ya) w := fun _ => by kernel_rfl
    have hi1 : ∀ w, (Instr.index 99 (.agg #[.iface Ta Ya, .iface Tb Yb, .iface Tc Yc]) (.int .i64 1)).run Try.prog w = .ok (.iface Tb Yb) w := fun _ => by kernel_rfl
    have hi2 : ∀ w, (Instr.index 99 (.agg #[.iface Ta Ya, .iface Tb Yb, .iface Tc Yc]) (.int .i64 2)).run Try.prog w = .ok (.iface Tc Yc) w := fun _ => by kernel_rfl
    go_enter Try.func20, Try.ntmps20
    go_wp2_with fail
    rw [← HW0.out]
    go_wp2_with fail
    refine HG.out.mono ?_
    rintro e w1 ⟨rfl, hb1⟩
    have HX := Lib.hid (box_below HH.out.2.1 hb1)
    have HY := Lib.hid (box_below HH.out.2.2 hb1)
    have HB1 := Lib.hid (HH.out.1.trans (hb1.mono HH.out.1.size))
    have HSZ := Lib.hid (lt_heap HY.out)
    clear hb1 x0 x1 x2 x3
    obtain ⟨o, ho⟩ : ∃ o, o = w1.heap.size := ⟨_, rfl⟩
    have HO := Lib.hid ho
    have hks : KSt w0.heap.size p m room w (w.heap.size + 1) o ts 0 0 0 (w1.alloc (.cells #[.int .i64 0, .int .i64 0, .int .i64 0] 54)) := ⟨HD.out.keep (HB1.out.alloc HB1.out.size _), DK.of_below (HB1.out.alloc HB1.out.size _) HB0.out.size, HDI.out, box_alloc HY.out, by rw [ho]; exact box_new _ _ _⟩
    have HKS := Lib.hid hks
    have HX1 := Lib.hid (box_alloc (o' := .cells #[.int .i64 0, .int .i64 0, .int .i64 0] 54) HX.out)
    obtain ⟨v, es, clock, q1, q2, q3⟩ := hks.1.parts
    obtain ⟨va, vc, rfl⟩ := rowT_form q3
    obtain ⟨z0, z1, z2, z3⟩ := cells3 q1
    obtain ⟨x0, x1, x2, x3⟩ := cells3 HX1.out
    have hro : w.heap.size + 1 ≠ o := by rw [ho]; have := HSZ.out; omega
    have hno : w.heap.size ≤ o := by rw [ho]; have := HSZ.out; omega
    clear hks q1 q2 q3 z1 z2 z3 ho
    go_wp2_with fail
    clear z0 x0 x1 x2 x3
    rw [← HO.out]
    go_loopw [28] (fun i wr => ∃ j : Nat, j ≤ 3 ∧ i = .int .i64 j ∧ Hid ((j = 0 → KSt w0.heap.size p m room w (w.heap.size + 1) o ts 0 0 0 wr) ∧ (j = 1 → c0 = 0 ∧ KSt w0.heap.size p m room w (w.heap.size + 1) o T1 n0 0 0 wr) ∧ (j = 2 → c0 = 0 ∧ c1 = 0 ∧ KSt w0.heap.size p m room w (w.heap.size + 1) o T2 n0 n1 0 wr) ∧ (j = 3 → c0 = 0 ∧ c1 = 0 ∧ c2 = 0 ∧ KSt w0.heap.size p m room w (w.heap.size + 1) o T3 n0 n1 n2 wr))) (fun i _ => 3 - (intOf i).toNat)
    case atStart => exact ⟨0, by omega, rfl, Lib.hid ⟨fun _ => HKS.out, fun h => by omega, fun h => by omega, fun h => by omega⟩⟩
    case round =>
      obtain ⟨j, hj, rfl, hb⟩ := hrel
      rcases (by omega : j = 0 ∨ j = 1 ∨ j = 2 ∨ j = 3) with rfl | rfl | rfl | rfl
      · rw [show ((0 : Nat) : Int) = 0 from rfl]
        have HS := Lib.hid (hb.out.1 rfl)
        clear hb
        go_wp2_with fail
        refine (HPU0.out _ HS.out).mono ?_
        rintro e w4 ⟨rfl, hd4, hk4, hdist4⟩
        have HS4 := Lib.hid (HS.out.put hd4 hk4 hdist4)
        clear hd4 hk4 hdist4
        by_cases hc : c0 = 0
        · have t4 : (c0 == 0) = true := by simp [hc]
          have t5 : (c0 != 0) = false := by simp [hc]
          have HC0 := Lib.hid hc
          clear hc
          obtain ⟨y0, y1, y2, y3⟩ := cells3 HS4.out.2.2.2.2
          obtain ⟨y4, y5⟩ := froz3 HS4.out.2.2.2.2
          go_wp2_with fail
          exact ⟨⟨1, by omega, rfl, Lib.hid ⟨fun h => by omega, fun _ => ⟨HC0.out, HS4.out.set HB0.out.size hno hro 0 n0 0 0 n0 rfl⟩, fun h => by omega, fun h => by omega⟩⟩, by simp [intOf]⟩
        · have t4 : (c0 == 0) = false := by simpa using hc
          have t5 : (c0 != 0) = true := by simpa using hc
          have HCU := Lib.hid (fun w1 (h1 : KSt w0.heap.size p m room w (w.heap.size + 1) o T1 0 0 0 w1) => cut_any (ts.length : Int) h1.1 h1.2.2.1 (Nat.le_trans HB0.out.size h1.2.1.1.size))
          have hlf := left_self HPRE0.out
          rw [hlf.1, hlf.2] at HCU
          have HKT : Hid (keyT G room ts t = (ts, (0, 0, 0), c0)) := Lib.hid (HKE.out.1 hc)
          clear hc hlf
          go_wp2_with fail
          refine (HCU.out _ HS4.out).mono ?_
          rintro e w5 ⟨rfl, hd5, hk5, hdist5⟩
          have HS5 := Lib.hid (HS4.out.put hd5 hk5 hdist5)
          clear hd5 hk5 hdist5
          obtain ⟨y0, y1, y2, y3⟩ := cells3 HS5.out.2.2.2.1
          obtain ⟨y4, y5⟩ := froz3 HS5.out.2.2.2.1
          go_wp2_with fail
          have h5 := HS5.out.end3 HB0.out.size (Nat.le_succ _) (.int .i64 0) (.int .i64 0) (.int .i64 0)
          refine bodyPost_ret (v := .tuple #[.agg #[.int .i64 0, .int .i64 0, .int .i64 0], .int .i64 c0]) (by simp [results, Try.results20, go_sem, y0, y1, y2]) rfl ?_
          unfold KeyEnd
          rw [HKT.out]
          exact ⟨rfl, h5.1, h5.2, HS5.out.2.2.1⟩
      · rw [show ((1 : Nat) : Int) = 1 from rfl]
        obtain ⟨hc0, hs⟩ := hb.out.2.1 rfl
        have HC0 := Lib.hid hc0
        have HS := Lib.hid hs
        clear hb hc0 hs
        go_wp2_with fail
        refine (HPU1.out _ HS.out).mono ?_
        rintro e w4 ⟨rfl, hd4, hk4, hdist4⟩
        have HS4 := Lib.hid (HS.out.put hd4 hk4 hdist4)
        clear hd4 hk4 hdist4
        by_cases hc : c1 = 0
        · have t4 : (c1 == 0) = true := by simp [hc]
          have t5 : (c1 != 0) = false := by simp [hc]
          have HC1 := Lib.hid hc
          clear hc
          obtain ⟨y0, y1, y2, y3⟩ := cells3 HS4.out.2.2.2.2
          obtain ⟨y4, y5⟩ := froz3 HS4.out.2.2.2.2
          go_wp2_with fail
          exact ⟨⟨2, by omega, rfl, Lib.hid ⟨fun h => by omega, fun h => by omega, fun _ => ⟨HC0.out, HC1.out, HS4.out.set HB0.out.size hno hro 1 n0 n1 0 n1 rfl⟩, fun h => by omega⟩⟩, by simp [intOf]⟩
        · have t4 : (c1 == 0) = false := by simpa using hc
          have t5 : (c1 != 0) = true := by simpa using hc
          have HCU := Lib.hid (fun w1 (h1 : KSt w0.heap.size p m room w (w.heap.size + 1) o T2 n0 0 0 w1) => cut_any (ts.length : Int) h1.1 h1.2.2.1 (Nat.le_trans HB0.out.size h1.2.1.1.size))
          have hlf := left_self HPRE1.out
          rw [hlf.1, hlf.2] at HCU
          have HKT : Hid (keyT G room ts t = (ts, (0, 0, 0), c1)) := Lib.hid (HKE.out.2.1 HC0.out hc)
          clear hc hlf
          go_wp2_with fail
          refine (HCU.out _ HS4.out).mono ?_
          rintro e w5 ⟨rfl, hd5, hk5, hdist5⟩
          have HS5 := Lib.hid (HS4.out.put hd5 hk5 hdist5)
          clear hd5 hk5 hdist5
          obtain ⟨y0, y1, y2, y3⟩ := cells3 HS5.out.2.2.2.1
          obtain ⟨y4, y5⟩ := froz3 HS5.out.2.2.2.1
          go_wp2_with fail
          have h5 := HS5.out.end3 HB0.out.size (Nat.le_succ _) (.int .i64 0) (.int .i64 0) (.int .i64 0)
          refine bodyPost_ret (v := .tuple #[.agg #[.int .i64 0, .int .i64 0, .int .i64 0], .int .i64 c1]) (by simp [results, Try.results20, go_sem, y0, y1, y2]) rfl ?_
          unfold KeyEnd
          rw [HKT.out]
          exact ⟨rfl, h5.1, h5.2, HS5.out.2.2.1⟩
      · rw [show ((2 : Nat) : Int) = 2 from rfl]
        obtain ⟨hc0, hc1, hs⟩ := hb.out.2.2.1 rfl
        have HC0 := Lib.hid hc0
        have HC1 := Lib.hid hc1
        have HS := Lib.hid hs
        clear hb hc0 hc1 hs
        go_wp2_with fail
        refine (HPU2.out _ HS.out).mono ?_
        rintro e w4 ⟨rfl, hd4, hk4, hdist4⟩
        have HS4 := Lib.hid (HS.out.put hd4 hk4 hdist4)
        clear hd4 hk4 hdist4
        by_cases hc : c2 = 0
        · have t4 : (c2 == 0) = true := by simp [hc]
          have t5 : (c2 != 0) = false := by simp [hc]
          have HC2 := Lib.hid hc
          clear hc
          obtain ⟨y0, y1, y2, y3⟩ := cells3 HS4.out.2.2.2.2
          obtain ⟨y4, y5⟩ := froz3 HS4.out.2.2.2.2
          go_wp2_with fail
          exact ⟨⟨3, by omega, rfl, Lib.hid ⟨fun h => by omega, fun h => by omega, fun h => by omega, fun _ => ⟨HC0.out, HC1.out, HC2.out, HS4.out.set HB0.out.size hno hro 2 n0 n1 n2 n2 rfl⟩⟩⟩, by simp [intOf]⟩
        · have t4 : (c2 == 0) = false := by simpa using hc
          have t5 : (c2 != 0) = true := by simpa using hc
          have HCU := Lib.hid (fun w1 (h1 : KSt w0.heap.size p m room w (w.heap.size + 1) o T3 n0 n1 0 w1) => cut_any (ts.length : Int) h1.1 h1.2.2.1 (Nat.le_trans HB0.out.size h1.2.1.1.size))
          have hlf := left_self HPRE2.out
          rw [hlf.1, hlf.2] at HCU
          have HKT : Hid (keyT G room ts t = (ts, (0, 0, 0), c2)) := Lib.hid (HKE.out.2.2.1 HC0.out HC1.out hc)
          clear hc hlf
          go_wp2_with fail
          refine (HCU.out _ HS4.out).mono ?_
          rintro e w5 ⟨rfl, hd5, hk5, hdist5⟩
          have HS5 := Lib.hid (HS4.out.put hd5 hk5 hdist5)
          clear hd5 hk5 hdist5
          obtain ⟨y0, y1, y2, y3⟩ := cells3 HS5.out.2.2.2.1
          obtain ⟨y4, y5⟩ := froz3 HS5.out.2.2.2.1
          go_wp2_with fail
          have h5 := HS5.out.end3 HB0.out.size (Nat.le_succ _) (.int .i64 0) (.int .i64 0) (.int .i64 0)
          refine bodyPost_ret (v := .tuple #[.agg #[.int .i64 0, .int .i64 0, .int .i64 0], .int .i64 c2]) (by simp [results, Try.results20, go_sem, y0, y1, y2]) rfl ?_
          unfold KeyEnd
          rw [HKT.out]
          exact ⟨rfl, h5.1, h5.2, HS5.out.2.2.1⟩
      · rw [show ((3 : Nat) : Int) = 3 from rfl]
        obtain ⟨hc0, hc1, hc2, hs⟩ := hb.out.2.2.2 rfl
        have HKT : Hid (keyT G room ts t = (T3, (n0, n1, n2), 0)) := Lib.hid (HKE.out.2.2.2 hc0 hc1 hc2)
        have HS := Lib.hid hs
        clear hb hc0 hc1 hc2 hs
        obtain ⟨y0, y1, y2, y3⟩ := cells3 HS.out.2.2.2.1
        obtain ⟨y4, y5⟩ := froz3 HS.out.2.2.2.1
        obtain ⟨u0, u1, u2, u3⟩ := cells3 HS.out.2.2.2.2
        go_wp2_with fail
        have h5 := HS.out.end3 HB0.out.size (Nat.le_succ _) (.int .i64 n0) (.int .i64 n1) (.int .i64 n2)
        refine bodyPost_ret (v := .tuple #[.agg #[.int .i64 n0, .int .i64 n1, .int .i64 n2], .int .i64 0]) (by simp [results, Try.results20, go_sem, y0, y1, y2]) rfl ?_
        unfold KeyEnd
        rw [HKT.out]
        exact ⟨rfl, h5.1, h5.2, HS.out.2.2.1⟩
end Go.Proofs.Ytghimladdioajaa
namespace Go.Proofs.Ytghimladdioajaa
open Go Go.RowKit
set_option linter.unusedVariables false
set_option linter.unusedSimpArgs false
set_option maxRecDepth 100000
theorem kept6 {w1 w2 : World} {a0 a1 a2 a3 a4 a5 a6 : Addr} {v0 v1 v2 v3 v4 v5 v6 : Value} (h : w1.cell? a0 = some v0 ∧ w1.cell? a1 = some v1 ∧ w1.cell? a2 = some v2 ∧ w1.cell? a3 = some v3 ∧ w1.cell? a4 = some v4 ∧ w1.cell? a5 = some v5 ∧ w1.cell? a6 = some v6) (hb : Below w1.heap.size w1 w2) :
    w2.cell? a0 = some v0 ∧ w2.cell? a1 = some v1 ∧ w2.cell? a2 = some v2 ∧ w2.cell? a3 = some v3 ∧ w2.cell? a4 = some v4 ∧ w2.cell? a5 = some v5 ∧ w2.cell? a6 = some v6 := by
  obtain ⟨h0, h1, h2, h3, h4, h5, h6⟩ := h
  exact ⟨cell_below h0 hb, cell_below h1 hb, cell_below h2 hb, cell_below h3 hb, cell_below h4 hb, cell_below h5 hb, cell_below h6 hb⟩
theorem below_store {w w' : World} {b i : Nat} {v : Value} (h : Below w.heap.size w w') (hn : w.heap.size ≤ b) : Below w.heap.size w (w'.setCell ⟨b, i, none⟩ v) := h.setCell (p := ⟨b, i, none⟩) hn v
set_option maxHeartbeats 1600000 in
theorem trip_any {G : Tm → Bool} (hG : GoodFn G) {base p m : Nat} {ts : List Tm} {room : Int} {w : World} (a b c : Int) (hm : MaxV w) (h : DcAt base p m ts room w) (hf : Fine G ts) :
    Calls Try.prog 22 #[.pointer (some ⟨p, 0, none⟩), .agg #[.int .i64 a, .int .i64 b, .int .i64 c]] w fun e w' => e = .returned (.tuple #[triV (tripT G ts a b c).1, .int .i64 (tripT G ts a b c).2]) ∧ Below w.heap.size w w' := by
  obtain ⟨W0, hW0⟩ : ∃ W0, W0 = (w.alloc (.cells #[.int .i64 a, .int .i64 b, .int .i64 c] 54)).alloc (.cells #[.nilIface, .nilIface, .nilIface] 58) := ⟨_, rfl⟩
  have hbw : Below w.heap.size w W0 := by rw [hW0]; go_grown
  have hbx : W0.heap[w.heap.size]? = some (.cells #[.int .i64 a, .int .i64 b, .int .i64 c] 54 (0, 0)) := by rw [hW0]; exact box_alloc (box_new _ _ _)
  have hby : W0.heap[w.heap.size + 1]? = some (.cells #[.nilIface, .nilIface, .nilIface] 58 (0, 0)) := by
    rw [hW0]
    have := box_new (w.alloc (.cells #[.int .i64 a, .int .i64 b, .int .i64 c] 54)) #[.nilIface, .nilIface, .nilIface] 58
    simpa using this
  have HH := Lib.hid (⟨hbw, hbx, hby⟩ : _ ∧ _ ∧ _)
  have HW0 := Lib.hid hW0
  have hd0 : DcAt base p m ts room W0 := h.keep hbw
  have HD := Lib.hid hd0
  have HA := Lib.hid (has_any a hd0)
  have HB := Lib.hid (has_any b hd0)
  have HC := Lib.hid (has_any c hd0)
  change Hid (Calls _ _ _ W0 fun e w' => e = .returned (.bool (hasN a ts.length)) ∧ W0 = w') at HA
  change Hid (Calls _ _ _ W0 fun e w' => e = .returned (.bool (hasN b ts.length)) ∧ W0 = w') at HB
  change Hid (Calls _ _ _ W0 fun e w' => e = .returned (.bool (hasN c ts.length)) ∧ W0 = w') at HC
  obtain ⟨x0, x1, x2, x3⟩ := cells3 hbx
  have HM := Lib.hid (hm.below hbw)
  have HF := Lib.hid hf
  have HG := Lib.hid hG
  clear hbw hbx hby hW0 hd0 h hm hf hG
  cases ha : hasN a ts.length with
  | false =>
    have HV : Hid (tripT G ts a b c = (⟨.none, .none, .none⟩, 4)) := Lib.hid (by unfold tripT; rw [if_neg (by simp [ha])])
    rw [ha] at HA
    clear ha
    go_enter Try.func22, Try.ntmps22
    go_wp2_with fail
    rw [← HW0.out]
    go_wp2_with fail
    refine HA.out.mono ?_
    rintro e w1 ⟨rfl, rfl⟩
    obtain ⟨y0, y1, y2, y3⟩ := cells3 HH.out.2.2
    obtain ⟨y4, y5⟩ := froz3 HH.out.2.2
    go_wp2_with fail
    refine bodyPost_ret (v := .tuple #[.agg #[.nilIface, .nilIface, .nilIface], .int .i64 4]) (by simp [results, Try.results22, go_sem, y0, y1, y2]) rfl ?_
    exact ⟨by rw [HV.out]; rfl, below_store (below_store (below_store HH.out.1 (by omega)) (by omega)) (by omega)⟩
  | true =>
    rw [ha] at HA
    cases hb : hasN b ts.length with
    | false =>
      have HV : Hid (tripT G ts a b c = (⟨.none, .none, .none⟩, 4)) := Lib.hid (by unfold tripT; rw [if_neg (by simp [hb])])
      rw [hb] at HB
      clear ha hb
      go_enter Try.func22, Try.ntmps22
      go_wp2_with fail
      rw [← HW0.out]
      go_wp2_with fail
      refine HA.out.mono ?_
      rintro e w1 ⟨rfl, rfl⟩
      go_wp2_with fail
      refine HB.out.mono ?_
      rintro e w1 ⟨rfl, rfl⟩
      obtain ⟨y0, y1, y2, y3⟩ := cells3 HH.out.2.2
      obtain ⟨y4, y5⟩ := froz3 HH.out.2.2
      go_wp2_with fail
      refine bodyPost_ret (v := .tuple #[.agg #[.nilIface, .nilIface, .nilIface], .int .i64 4]) (by simp [results, Try.results22, go_sem, y0, y1, y2]) rfl ?_
      exact ⟨by rw [HV.out]; rfl, below_store (below_store (below_store HH.out.1 (by omega)) (by omega)) (by omega)⟩
    | true =>
      rw [hb] at HB
      cases hc : hasN c ts.length with
      | false =>
        have HV : Hid (tripT G ts a b c = (⟨.none, .none, .none⟩, 4)) := Lib.hid (by unfold tripT; rw [if_neg (by simp [hc])])
        rw [hc] at HC
        clear ha hb hc
        go_enter Try.func22, Try.ntmps22
        go_wp2_with fail
        rw [← HW0.out]
        go_wp2_with fail
        refine HA.out.mono ?_
        rintro e w1 ⟨rfl, rfl⟩
        go_wp2_with fail
        refine HB.out.mono ?_
        rintro e w1 ⟨rfl, rfl⟩
        go_wp2_with fail
        refine HC.out.mono ?_
        rintro e w1 ⟨rfl, rfl⟩
        obtain ⟨y0, y1, y2, y3⟩ := cells3 HH.out.2.2
        obtain ⟨y4, y5⟩ := froz3 HH.out.2.2
        go_wp2_with fail
        refine bodyPost_ret (v := .tuple #[.agg #[.nilIface, .nilIface, .nilIface], .int .i64 4]) (by simp [results, Try.results22, go_sem, y0, y1, y2]) rfl ?_
        exact ⟨by rw [HV.out]; rfl, below_store (below_store (below_store HH.out.1 (by omega)) (by omega)) (by omega)⟩
      | true =>
        rw [hc] at HC
        have HTT : Hid (tripT G ts a b c = (if goodTri G ⟨ts.getD a.toNat .none, ts.getD b.toNat .none, ts.getD c.toNat .none⟩ then (⟨ts.getD a.toNat .none, ts.getD b.toNat .none, ts.getD c.toNat .none⟩, 0) else (⟨.none, .none, .none⟩, 3))) := Lib.hid (by unfold tripT; rw [if_pos (by simp [ha, hb, hc])])
        unfold hasN at ha hb hc
        simp only [Bool.and_eq_true, decide_eq_true_eq] at ha hb hc
        obtain ⟨ja, hja⟩ : ∃ ja : Nat, a = ja := ⟨a.toNat, by omega⟩
        obtain ⟨jb, hjb⟩ : ∃ jb : Nat, b = jb := ⟨b.toNat, by omega⟩
        obtain ⟨jc, hjc⟩ : ∃ jc : Nat, c = jc := ⟨c.toNat, by omega⟩
        subst hja; subst hjb; subst hjc
        have hla : ja < ts.length := by omega
        have hlb : jb < ts.length := by omega
        have hlc : jc < ts.length := by omega
        simp only [Int.toNat_natCast] at HTT
        rw [show ts.getD ja .none = ts[ja] by simp [hla], show ts.getD jb .none = ts[jb] by simp [hlb], show ts.getD jc .none = ts[jc] by simp [hlc]] at HTT
        obtain ⟨v, es, clock, h1, h2, h3, h4, h5⟩ := HD.out
        obtain ⟨g, cap, rfl, d1⟩ := row_cell h4 ja hla
        obtain ⟨g2, cap2, hv, d2⟩ := row_cell h4 jb hlb
        obtain rfl : g = g2 := by injection hv with hv _ _; injection hv with hv; injection hv
        obtain ⟨g3, cap3, hv3, d3⟩ := row_cell h4 jc hlc
        obtain rfl : g = g3 := by injection hv3 with hv3 _ _; injection hv3 with hv3; injection hv3
        obtain ⟨c0, c1, c2, f0⟩ := cells3 h1
        obtain ⟨t, ht⟩ : ∃ t : Tri, t = ⟨ts[ja], ts[jb], ts[jc]⟩ := ⟨_, rfl⟩
        have hsm : SmallTri t := by rw [ht]; exact ⟨(HF.out _ (List.getElem_mem hla)).2.1, (HF.out _ (List.getElem_mem hlb)).2.1, (HF.out _ (List.getElem_mem hlc)).2.1⟩
        have HGT := Lib.hid (fun w1 (hb : Below W0.heap.size W0 w1) => tgood3_any HG.out t hsm (w := w1) (HM.out.below hb))
        rw [← ht] at HTT
        rw [show ts[ja] = t.s by rw [ht]] at d1
        rw [show ts[jb] = t.p by rw [ht]] at d2
        rw [show ts[jc] = t.o by rw [ht]] at d3
        have b1 : (0 : Int) ≤ (ja : Int) := by omega
        have b2 : (ja : Int) < (ts.length : Int) := by omega
        have b3 : (0 : Int) ≤ (jb : Int) := by omega
        have b4 : (jb : Int) < (ts.length : Int) := by omega
        have b5 : (0 : Int) ≤ (jc : Int) := by omega
        have b6 : (jc : Int) < (ts.length : Int) := by omega
        have hn2 : W0.heap.size = w.heap.size + 2 := by rw [HW0.out]; simp
        have HN := Lib.hid hn2
        have hia : ∃ T Y, tmV t.s = .iface T Y := by rw [ht]; exact key_iface (HF.out _ (List.getElem_mem hla)).1
        have hib : ∃ T Y, tmV t.p = .iface T Y := by rw [ht]; exact key_iface (HF.out _ (List.getElem_mem hlb)).1
        have hic : ∃ T Y, tmV t.o = .iface T Y := by rw [ht]; exact key_iface (HF.out _ (List.getElem_mem hlc)).1
        clear h1 h2 h3 h4 h5 hv hv3 ha hb hc c1 c2 f0 ht hsm hn2
        unfold triV at HGT ⊢
        obtain ⟨Ta, Ya, hea⟩ := hia
        obtain ⟨Tb, Yb, heb⟩ := hib
        obtain ⟨Tc, Yc, hec⟩ := hic
        rw [hea, heb, hec] at HGT
        rw [hea] at d1
        rw [heb] at d2
        rw [hec] at d3
        have HEQ := Lib.hid (⟨hea, heb, hec⟩ : _ ∧ _ ∧ _)
        clear hea heb hec
        go_enter Try.func22, Try.ntmps22
        go_wp2_with fail
        rw [← HW0.out]
        go_wp2_with fail
        refine HA.out.mono ?_
        rintro e w1 ⟨rfl, rfl⟩
        go_wp2_with fail
        refine HB.out.mono ?_
        rintro e w1 ⟨rfl, rfl⟩
        go_wp2_with fail
        refine HC.out.mono ?_
        rintro e w1 ⟨rfl, rfl⟩
        go_wp2_with fail
        refine wp_region_held_drew (S := (fun w' => w'.cell? ⟨p, 0, none⟩ = some (.slice (some ⟨g, 0, none⟩) ts.length cap) ∧ w'.cell? ⟨w.heap.size, 0, none⟩ = some (.int .i64 ja) ∧ w'.cell? ⟨w.heap.size, 1, none⟩ = some (.int .i64 jb) ∧ w'.cell? ⟨w.heap.size, 2, none⟩ = some (.int .i64 jc) ∧ w'.cell? ⟨g, ja, none⟩ = some (.iface Ta Ya) ∧ w'.cell? ⟨g, jb, none⟩ = some (.iface Tb Yb) ∧ w'.cell? ⟨g, jc, none⟩ = some (.iface Tc Yc))) (by kernel_rfl) ?hStri0 (fun hHeld => ?_)
        case hStri0 => exact ⟨c0, x0, x1, x2, d1, d2, d3⟩
        refine wpAnyH_take (i := 0) (oi := ⟨some 27, _, _, _, _, _⟩) (v := ?vtri0) rfl (by kernel_rfl) (by kernel_rfl) (by kernel_rfl) (fun _ _ _ h => h) (Or.inl ⟨by kernel_rfl, ?ytri0⟩) (by assumption) ?rtri0
        case ytri0 =>
          intro w hSw
          try dsimp only at hSw
          first | (go_simp; done) | (go_simp; with_reducible rfl)
        try simp only [Act.put, List.setIfInBounds_toArray, List.set_cons_zero, List.set_cons_succ]
        refine wpAnyH_take (i := 1) (oi := ⟨some 28, _, _, _, _, _⟩) (v := ?vtri1) rfl (by kernel_rfl) (by kernel_rfl) (by kernel_rfl) (fun _ _ _ h => h) (Or.inl ⟨by kernel_rfl, ?ytri1⟩) (by assumption) ?rtri1
        case ytri1 =>
          intro w hSw
          try dsimp only at hSw
          first | (go_simp; done) | (go_simp; with_reducible rfl)
        try simp only [Act.put, List.setIfInBounds_toArray, List.set_cons_zero, List.set_cons_succ]
        refine wpAnyH_take (i := 2) (oi := ⟨some 29, _, _, _, _, _⟩) (v := ?vtri2) rfl (by kernel_rfl) (by kernel_rfl) (by kernel_rfl) (fun _ _ _ h => h) (Or.inl ⟨by kernel_rfl, ?ytri2⟩) (by assumption) ?rtri2
        case ytri2 =>
          intro w hSw
          try dsimp only at hSw
          first | (go_simp; done) | (go_simp; with_reducible rfl)
        try simp only [Act.put, List.setIfInBounds_toArray, List.set_cons_zero, List.set_cons_succ]
        refine wpAnyH_take (i := 3) (oi := ⟨some 30, _, _, _, _, _⟩) (v := ?vtri3) rfl (by kernel_rfl) (by kernel_rfl) (by kernel_rfl) (fun _ _ _ h => h) (Or.inl ⟨by kernel_rfl, ?ytri3⟩) (by assumption) ?rtri3
        case ytri3 =>
          intro w hSw
          try dsimp only at hSw
          first | (go_simp; done) | (go_simp; with_reducible rfl)
        try simp only [Act.put, List.setIfInBounds_toArray, List.set_cons_zero, List.set_cons_succ]
        refine wpAnyH_take (i := 4) (oi := ⟨some 31, _, _, _, _, _⟩) (v := ?vtri4) rfl (by kernel_rfl) (by kernel_rfl) (by kernel_rfl) (fun _ _ _ h => h) (Or.inl ⟨by kernel_rfl, ?ytri4⟩) (by assumption) ?rtri4
        case ytri4 =>
          intro w hSw
          try dsimp only at hSw
          first | (go_simp; done) | (go_simp; with_reducible rfl)
        try simp only [Act.put, List.setIfInBounds_toArray, List.set_cons_zero, List.set_cons_succ]
        refine wpAnyH_take (i := 5) (oi := ⟨some 32, _, _, _, _, _⟩) (v := ?vtri5) rfl (by kernel_rfl) (by kernel_rfl) (by kernel_rfl) (fun _ _ _ h => h) (Or.inl ⟨by kernel_rfl, ?ytri5⟩) (by assumption) ?rtri5
        case ytri5 =>
          intro w hSw
          try dsimp only at hSw
          first | (go_simp; done) | (go_simp; with_reducible rfl)
        try simp only [Act.put, List.setIfInBounds_toArray, List.set_cons_zero, List.set_cons_succ]
        refine wpAnyH_take (i := 6) (oi := ⟨some 33, _, _, _, _, _⟩) (v := ?vtri6) rfl (by kernel_rfl) (by kernel_rfl) (by kernel_rfl) (fun _ _ _ h => h) (Or.inl ⟨by kernel_rfl, ?ytri6⟩) (by assumption) ?rtri6
        case ytri6 =>
          intro w hSw
          try dsimp only at hSw
          first | (go_simp; done) | (go_simp; with_reducible rfl)
        try simp only [Act.put, List.setIfInBounds_toArray, List.set_cons_zero, List.set_cons_succ]
        refine wpAnyH_take (i := 7) (oi := ⟨some 34, _, _, _, _, _⟩) (v := ?vtri7) rfl (by kernel_rfl) (by kernel_rfl) (by kernel_rfl) (fun _ _ _ h => h) (Or.inl ⟨by kernel_rfl, ?ytri7⟩) (by assumption) ?rtri7
        case ytri7 =>
          intro w hSw
          try dsimp only at hSw
          first | (go_simp; done) | (go_simp; with_reducible rfl)
        try simp only [Act.put, List.setIfInBounds_toArray, List.set_cons_zero, List.set_cons_succ]
        refine wpAnyH_take (i := 8) (oi := ⟨some 35, _, _, _, _, _⟩) (v := ?vtri8) rfl (by kernel_rfl) (by kernel_rfl) (by kernel_rfl) (fun _ _ _ h => h) (Or.inl ⟨by kernel_rfl, ?ytri8⟩) (by assumption) ?rtri8
        case ytri8 =>
          intro w hSw
          try dsimp only at hSw
          first | (go_simp; done) | (go_simp; with_reducible rfl)
        try simp only [Act.put, List.setIfInBounds_toArray, List.set_cons_zero, List.set_cons_succ]
        refine wpAnyH_take (i := 9) (oi := ⟨some 36, _, _, _, _, _⟩) (v := ?vtri9) rfl (by kernel_rfl) (by kernel_rfl) (by kernel_rfl) (fun _ _ _ h => h) (Or.inl ⟨by kernel_rfl, ?ytri9⟩) (by assumption) ?rtri9
        case ytri9 =>
          intro w hSw
          try dsimp only at hSw
          first | (go_simp; done) | (go_simp; with_reducible rfl)
        try simp only [Act.put, List.setIfInBounds_toArray, List.set_cons_zero, List.set_cons_succ]
        refine wpAnyH_take (i := 10) (oi := ⟨some 37, _, _, _, _, _⟩) (v := ?vtri10) rfl (by kernel_rfl) (by kernel_rfl) (by kernel_rfl) (fun _ _ _ h => h) (Or.inl ⟨by kernel_rfl, ?ytri10⟩) (by assumption) ?rtri10
        case ytri10 =>
          intro w hSw
          try dsimp only at hSw
          first | (go_simp; done) | (go_simp; with_reducible rfl)
        try simp only [Act.put, List.setIfInBounds_toArray, List.set_cons_zero, List.set_cons_succ]
        refine wpAnyH_take (i := 11) (oi := ⟨some 38, _, _, _, _, _⟩) (v := ?vtri11) rfl (by kernel_rfl) (by kernel_rfl) (by kernel_rfl) (fun _ _ _ h => h) (Or.inl ⟨by kernel_rfl, ?ytri11⟩) (by assumption) ?rtri11
        case ytri11 =>
          intro w hSw
          try dsimp only at hSw
          first | (go_simp; done) | (go_simp; with_reducible rfl)
        try simp only [Act.put, List.setIfInBounds_toArray, List.set_cons_zero, List.set_cons_succ]
        refine wpAnyH_take (i := 12) (oi := ⟨some 39, _, _, _, _, _⟩) (v := ?vtri12) rfl (by kernel_rfl) (by kernel_rfl) (by kernel_rfl) (fun _ _ _ h => h) (Or.inl ⟨by kernel_rfl, ?ytri12⟩) (by assumption) ?rtri12
        case ytri12 =>
          intro w hSw
          try dsimp only at hSw
          first | (go_simp; done) | (go_simp; with_reducible rfl)
        try simp only [Act.put, List.setIfInBounds_toArray, List.set_cons_zero, List.set_cons_succ]
        refine wpAnyH_take (i := 13) (oi := ⟨some 40, _, _, _, _, _⟩) (v := ?vtri13) rfl (by kernel_rfl) (by kernel_rfl) (by kernel_rfl) (fun _ _ _ h => h) (Or.inl ⟨by kernel_rfl, ?ytri13⟩) (by assumption) ?rtri13
        case ytri13 =>
          intro w hSw
          try dsimp only at hSw
          first | (go_simp; done) | (go_simp; with_reducible rfl)
        try simp only [Act.put, List.setIfInBounds_toArray, List.set_cons_zero, List.set_cons_succ]
        refine wpAnyH_take (i := 14) (oi := ⟨some 41, _, _, _, _, _⟩) (v := ?vtri14) rfl (by kernel_rfl) (by kernel_rfl) (by kernel_rfl) (fun _ _ _ h => h) (Or.inl ⟨by kernel_rfl, ?ytri14⟩) (by assumption) ?rtri14
        case ytri14 =>
          intro w hSw
          try dsimp only at hSw
          first | (go_simp; done) | (go_simp; with_reducible rfl)
        try simp only [Act.put, List.setIfInBounds_toArray, List.set_cons_zero, List.set_cons_succ]
        refine wpAnyH_take (i := 15) (oi := ⟨some 42, _, _, _, _, _⟩) (v := ?vtri15) rfl (by kernel_rfl) (by kernel_rfl) (by kernel_rfl) (fun _ _ _ h => h) (Or.inl ⟨by kernel_rfl, ?ytri15⟩) (by assumption) ?rtri15
        case ytri15 =>
          intro w hSw
          try dsimp only at hSw
          first | (go_simp; done) | (go_simp; with_reducible rfl)
        try simp only [Act.put, List.setIfInBounds_toArray, List.set_cons_zero, List.set_cons_succ]
        refine wpAnyH_take (i := 16) (oi := ⟨some 43, _, _, _, _, _⟩) (v := ?vtri16) rfl (by kernel_rfl) (by kernel_rfl) (by kernel_rfl) (fun _ _ _ h => h) (Or.inl ⟨by kernel_rfl, ?ytri16⟩) (by assumption) ?rtri16
        case ytri16 =>
          intro w hSw
          try dsimp only at hSw
          first | (go_simp; done) | (go_simp; with_reducible rfl)
        try simp only [Act.put, List.setIfInBounds_toArray, List.set_cons_zero, List.set_cons_succ]
        refine wpAnyH_take (i := 17) (oi := ⟨some 44, _, _, _, _, _⟩) (v := ?vtri17) rfl (by kernel_rfl) (by kernel_rfl) (by kernel_rfl) (fun _ _ _ h => h) (Or.inl ⟨by kernel_rfl, ?ytri17⟩) (by assumption) ?rtri17
        case ytri17 =>
          intro w hSw
          try dsimp only at hSw
          first | (go_simp; done) | (go_simp; with_reducible rfl)
        try simp only [Act.put, List.setIfInBounds_toArray, List.set_cons_zero, List.set_cons_succ]
        refine wpAnyH_take (i := 18) (oi := ⟨some 45, _, _, _, _, _⟩) (v := ?vtri18) rfl (by kernel_rfl) (by kernel_rfl) (by kernel_rfl) (fun _ _ _ h => h) (Or.inl ⟨by kernel_rfl, ?ytri18⟩) (by assumption) ?rtri18
        case ytri18 =>
          intro w hSw
          try dsimp only at hSw
          first | (go_simp; done) | (go_simp; with_reducible rfl)
        try simp only [Act.put, List.setIfInBounds_toArray, List.set_cons_zero, List.set_cons_succ]
        refine wpAnyH_take (i := 19) (oi := ⟨some 46, _, _, _, _, _⟩) (v := ?vtri19) rfl (by kernel_rfl) (by kernel_rfl) (by kernel_rfl) (fun _ _ _ h => h) (Or.inl ⟨by kernel_rfl, ?ytri19⟩) (by assumption) ?rtri19
        case ytri19 =>
          intro w hSw
          try dsimp only at hSw
          first | (go_simp; done) | (go_simp; with_reducible rfl)
        try simp only [Act.put, List.setIfInBounds_toArray, List.set_cons_zero, List.set_cons_succ]
        refine wpAnyH_take (i := 20) (oi := ⟨some 47, _, _, _, _, _⟩) (v := ?vtri20) rfl (by kernel_rfl) (by kernel_rfl) (by kernel_rfl) (fun _ _ _ h => h) (Or.inl ⟨by kernel_rfl, ?ytri20⟩) (by assumption) ?rtri20
        case ytri20 =>
          intro w hSw
          try dsimp only at hSw
          first | (go_simp; done) | (go_simp; with_reducible rfl)
        try simp only [Act.put, List.setIfInBounds_toArray, List.set_cons_zero, List.set_cons_succ]
        refine wpAnyH_take (i := 21) (oi := ⟨some 48, _, _, _, _, _⟩) (v := ?vtri21) rfl (by kernel_rfl) (by kernel_rfl) (by kernel_rfl) (fun _ _ _ h => h) (Or.inl ⟨by kernel_rfl, ?ytri21⟩) (by assumption) ?rtri21
        case ytri21 =>
          intro w hSw
          try dsimp only at hSw
          first | (go_simp; done) | (go_simp; with_reducible rfl)
        try simp only [Act.put, List.setIfInBounds_toArray, List.set_cons_zero, List.set_cons_succ]
        refine wpAnyH_take (i := 22) (oi := ⟨some 49, _, _, _, _, _⟩) (v := ?vtri22) rfl (by kernel_rfl) (by kernel_rfl) (by kernel_rfl) (fun _ _ _ h => h) (Or.inl ⟨by kernel_rfl, ?ytri22⟩) (by assumption) ?rtri22
        case ytri22 =>
          intro w hSw
          try dsimp only at hSw
          first | (go_simp; done) | (go_simp; with_reducible rfl)
        try simp only [Act.put, List.setIfInBounds_toArray, List.set_cons_zero, List.set_cons_succ]
        refine wpAnyH_take (i := 23) (oi := ⟨some 50, _, _, _, _, _⟩) (v := ?vtri23) rfl (by kernel_rfl) (by kernel_rfl) (by kernel_rfl) (fun _ _ _ h => h) (Or.inl ⟨by kernel_rfl, ?ytri23⟩) (by assumption) ?rtri23
        case ytri23 =>
          intro w hSw
          try dsimp only at hSw
          first | (go_simp; done) | (go_simp; with_reducible rfl)
        try simp only [Act.put, List.setIfInBounds_toArray, List.set_cons_zero, List.set_cons_succ]
        refine wpAnyH_take (i := 24) (oi := ⟨some 51, _, _, _, _, _⟩) (v := ?vtri24) rfl (by kernel_rfl) (by kernel_rfl) (by kernel_rfl) (fun _ _ _ h => h) (Or.inl ⟨by kernel_rfl, ?ytri24⟩) (by assumption) ?rtri24
        case ytri24 =>
          intro w hSw
          try dsimp only at hSw
          first | (go_simp; done) | (go_simp; with_reducible rfl)
        try simp only [Act.put, List.setIfInBounds_toArray, List.set_cons_zero, List.set_cons_succ]
        refine wpAnyH_ready (rs := [25]) (by kernel_rfl) (by simp) ?_
        refine AllReadyH.cons (i := 25) (o := ⟨some 6, _, _, _, _, _⟩) rfl (fun K hK => ?_) AllReadyH.nil
        go_simp
        refine hK.out _ _ ?_ (fun hHeld => ?_)
        · exact kept6 (by assumption) ((Below.refl _ _).alloc (Nat.le_refl _) _)
        clear hK K
        try simp only [Act.put, List.setIfInBounds_toArray, List.set_cons_zero, List.set_cons_succ]
        refine wpAnyH_ready (rs := [26]) (by kernel_rfl) (by simp) ?_
        refine AllReadyH.cons (i := 26) (o := ⟨none, _, _, _, _, _⟩) rfl (fun K hK => ?_) AllReadyH.nil
        go_simp
        refine hK.out _ _ ?_ (fun hHeld => ?_)
        · exact kept6 (w1 := W0) ⟨c0, x0, x1, x2, d1, d2, d3⟩ ((Below.refl _ W0).alloc (Nat.le_refl _) _).drew
        clear hK K
        try simp only [Act.put, List.setIfInBounds_toArray, List.set_cons_zero, List.set_cons_succ]
        refine wpAnyH_done (by kernel_rfl) ?_ _
        have hb9 : Below W0.heap.size W0 (W0.alloc (.cells #[.iface Ta Ya, .iface Tb Yb, .iface Tc Yc] 58)).drew := ((Below.refl _ W0).alloc (Nat.le_refl _) _).drew
        have hx9 : (W0.alloc (.cells #[.iface Ta Ya, .iface Tb Yb, .iface Tc Yc] 58)).drew.heap[W0.heap.size]? = some (.cells #[.iface Ta Ya, .iface Tb Yb, .iface Tc Yc] 58 (0, 0)) := box_new W0 _ _
        obtain ⟨W9, hW9⟩ : ∃ W9, W9 = (W0.alloc (.cells #[.iface Ta Ya, .iface Tb Yb, .iface Tc Yc] 58)).drew := ⟨_, rfl⟩
        rw [← hW9] at hb9 hx9
        obtain ⟨z0, z1, z2, z3⟩ := cells3 hx9
        have HY9 := Lib.hid (box_below HH.out.2.2 hb9)
        have HB9 := Lib.hid (HH.out.1.trans (hb9.mono HH.out.1.size))
        have HX9 := Lib.hid hx9
        have HG9 := Lib.hid (HGT.out _ hb9)
        rw [← hW9]
        have HW9 := Lib.hid hW9
        clear hW9 hb9 hx9 c0 x0 x1 x2 x3 d1 d2 d3
        cases hgd : goodTri G t with
        | true =>
          rw [hgd] at HG9
          rw [if_pos hgd] at HTT
          clear hgd
          go_wp2_with fail
          refine HG9.out.mono ?_
          rintro e w10 ⟨rfl, hb10⟩
          have HX10 := Lib.hid (box_below HX9.out hb10)
          have HY10 := Lib.hid (box_below HY9.out hb10)
          have HB10 := Lib.hid (HB9.out.trans (hb10.mono HB9.out.size))
          clear z0 z1 z2 z3 hb10
          obtain ⟨z0, z1, z2, z3⟩ := cells3 HX10.out
          obtain ⟨y0, y1, y2, y3⟩ := cells3 HY10.out
          obtain ⟨y4, y5⟩ := froz3 HY10.out
          go_wp2_with fail
          refine bodyPost_ret (v := .tuple #[.agg #[.iface Ta Ya, .iface Tb Yb, .iface Tc Yc], .int .i64 0]) (by simp [results, Try.results22, go_sem, y0, y1, y2]) rfl ?_
          exact ⟨by rw [HTT.out, HEQ.out.1, HEQ.out.2.1, HEQ.out.2.2], below_store (below_store (below_store HB10.out (by omega)) (by omega)) (by omega)⟩
        | false =>
          rw [hgd] at HG9
          rw [if_neg (by simp [hgd])] at HTT
          clear hgd
          go_wp2_with fail
          refine HG9.out.mono ?_
          rintro e w10 ⟨rfl, hb10⟩
          have HX10 := Lib.hid (box_below HX9.out hb10)
          have HY10 := Lib.hid (box_below HY9.out hb10)
          have HB10 := Lib.hid (HB9.out.trans (hb10.mono HB9.out.size))
          clear z0 z1 z2 z3 hb10
          obtain ⟨y0, y1, y2, y3⟩ := cells3 HY10.out
          obtain ⟨y4, y5⟩ := froz3 HY10.out
          go_wp2_with fail
          refine bodyPost_ret (v := .tuple #[.agg #[.nilIface, .nilIface, .nilIface], .int .i64 3]) (by simp [results, Try.results22, go_sem, y0, y1, y2]) rfl ?_
          exact ⟨by rw [HTT.out]; rfl, below_store (below_store (below_store HB10.out (by omega)) (by omega)) (by omega)⟩
end Go.Proofs.Ytghimladdioajaa
