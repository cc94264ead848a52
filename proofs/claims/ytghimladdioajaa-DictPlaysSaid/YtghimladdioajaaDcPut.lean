/- Contracts of package dict over this seat's program: Put. -/
import Derived.Test.YtghimladdioajaaDcGet
import Derived.Deep.RegionLaw
namespace Go.Proofs.Ytghimladdioajaa
open Go Go.RowKit
set_option linter.unusedVariables false
set_option linter.unusedSimpArgs false
/-- what the goodness of a term is, in every world that comes later -/
def GoodAt (x : Tm) (gb : Bool) (w : World) : Prop := ∀ w1, Below w.heap.size w w1 → Calls Try.prog 36 #[tmV x] w1 fun e w' => e = .returned (.bool gb) ∧ Below w1.heap.size w1 w'
theorem GoodAt.keep {x : Tm} {gb : Bool} {w w1 : World} (h : GoodAt x gb w) (hb : Below w.heap.size w w1) : GoodAt x gb w1 := fun w2 h2 => h w2 (hb.trans (h2.mono hb.size))
theorem put_bad {base p m : Nat} {ts : List Tm} {room : Int} {w : World} (x : Tm) (h : DcAt base p m ts room w) (hg : GoodAt x false w) :
    Calls Try.prog 13 #[.pointer (some ⟨p, 0, none⟩), tmV x] w fun e w' => e = .returned (.tuple #[.int .i64 0, .int .i64 3]) ∧ Below w.heap.size w w' := by
  have HF := Lib.hid (find_bad x h (hg w (Below.refl _ _)))
  have HG := Lib.hid hg
  clear hg h
  unfold GoodAt at HG
  generalize tmV x = X at *
  go_enter Try.func13, Try.ntmps13
  go_wp2_with fail
  refine HF.out.mono ?_
  rintro e w1 ⟨rfl, hb⟩
  go_wp2_with fail
  refine (HG.out w1 hb).mono ?_
  rintro e w2 ⟨rfl, hb2⟩
  go_wp2_with fail
  go_ret2
  exact ⟨rfl, hb.trans (hb2.mono hb.size)⟩
theorem put_there {base p m : Nat} {ts : List Tm} {room : Int} {w : World} (x : Tm) (hx : KeyT x) (h : DcAt base p m ts room w) (hg : GoodAt x true w) (j : Nat) (hj : idxT x ts = some j) :
    Calls Try.prog 13 #[.pointer (some ⟨p, 0, none⟩), tmV x] w fun e w' => e = .returned (.tuple #[.int .i64 j, .int .i64 0]) ∧ Below w.heap.size w w' := by
  have hf := find_good x hx h (hg w (Below.refl _ _))
  unfold findV at hf
  rw [hj] at hf
  have HF := Lib.hid hf
  have HG := Lib.hid hg
  clear hg h hf hj hx
  unfold GoodAt at HG
  generalize tmV x = X at *
  go_enter Try.func13, Try.ntmps13
  go_wp2_with fail
  refine HF.out.mono ?_
  rintro e w1 ⟨rfl, hb⟩
  go_wp2_with fail
  refine (HG.out w1 hb).mono ?_
  rintro e w2 ⟨rfl, hb2⟩
  go_wp2_with fail
  go_ret2
  exact ⟨rfl, hb.trans (hb2.mono hb.size)⟩
theorem put_full {base p m : Nat} {ts : List Tm} {room : Int} {w : World} (x : Tm) (hx : KeyT x) (h : DcAt base p m ts room w) (hg : GoodAt x true w) (hj : idxT x ts = none) (hr : room ≤ ts.length) :
    Calls Try.prog 13 #[.pointer (some ⟨p, 0, none⟩), tmV x] w fun e w' => e = .returned (.tuple #[.int .i64 0, .int .i64 6]) ∧ Below w.heap.size w w' := by
  have hf := find_good x hx h (hg w (Below.refl _ _))
  unfold findV at hf
  rw [hj] at hf
  have HF := Lib.hid hf
  have HG := Lib.hid hg
  have HD := Lib.hid h
  have t1 : decide ((ts.length : Int) ≥ room) = true := decide_eq_true hr
  clear hg h hf hj hx
  unfold GoodAt at HG
  generalize tmV x = X at *
  go_enter Try.func13, Try.ntmps13
  go_wp2_with fail
  refine HF.out.mono ?_
  rintro e w1 ⟨rfl, hb⟩
  go_wp2_with fail
  refine (HG.out w1 hb).mono ?_
  rintro e w2 ⟨rfl, hb2⟩
  obtain ⟨v, es, clock, h1, h2, h3, h4, h5⟩ := (HD.out.keep hb).keep hb2
  obtain ⟨a, cap, rfl⟩ := rowT_form h4
  obtain ⟨c0, c1, c2, f0⟩ := cells3 h1
  clear h1 h2 h3 h4 h5 c1 f0
  go_wp2_with fail
  go_quiet (fail)
  go_wp2_with fail
  go_ret2
  exact ⟨rfl, below_drewN (hb.trans (hb2.mono hb.size)) _⟩
/-- what a dictionary's own methods may turn: its struct, its map, rows of terms -/
def DK (base p m : Nat) (w w' : World) : Prop := Below base w w' ∧ ∀ k o, w.heap[k]? = some o → k ≠ p → k ≠ m → (∀ c fz, o ≠ .cells c 39 fz) → w'.heap[k]? = some o
theorem wpList_append_row {ops : Array Oper} {rest : List Oper} {o : Oper} {a : Act} {Q : Exit → Act → World → Prop} (w : World) (hgd : o.guard = none) (s x2 : Operand)
    (ho : o.op = .call { callee := .builtin .append, args := #[s, x2], argTypes := #[87, 87] }) (base : Nat) (v : Value) (ts : List Tm) (x : Tm) (hs : a.eval s = v) (hrow : RowT w base v ts)
    (ad : Addr) (hx : a.eval x2 = .slice (some ad) 1 1) (ha : w.cell? ad = some (tmV x)) (hn : ts.length + 1 ≤ 100000) (hb : base ≤ w.heap.size) (hadd : ad.add 0 = ad)
    (h : ∀ g cap w', RowT w' base (.slice (some ⟨g, 0, none⟩) (ts.length + 1) cap) (ts ++ [x]) → w.grownBy w' v.ownBlock → (v.ownBlock = some g ∨ w.heap.size ≤ g) → g < w'.heap.size → wpList Try.prog ops Q rest (a.put o.dst (.slice (some ⟨g, 0, none⟩) (ts.length + 1) cap)) w') :
    wpList Try.prog ops Q (o :: rest) a w := by
  refine wpList_plain hgd fun _ hK => ?_
  obtain ⟨g, cap, w', hr, h2, h3, h4, h5⟩ := run_append_row w o.type base v ts x ad hrow ha hn hb hadd
  unfold Oper.wp execOp
  simp only [ho, resolve, invoke, builtin, Sem.run_bind, Sem.run_pure, Result.andThen_ok, List.map_toArray, List.map_cons, List.map_nil, hs, hx, hr]
  exact hK _ _ (h g cap w' h2 h3 h4 h5)
theorem setMap_other (w : World) (m : Nat) (es : Array MapEntry) (c : Nat) {k : Nat} (hk : k ≠ m) : (setMap w m es c).heap[k]? = w.heap[k]? := by
  simp [setMap, Ne.symm hk]
theorem setMap_same (w : World) {m : Nat} (es : Array MapEntry) (c : Nat) (hm : m < w.heap.size) : (setMap w m es c).heap[m]? = some (.map es c) := by
  simp [setMap, hm]
theorem setMap_size (w : World) (m : Nat) (es : Array MapEntry) (c : Nat) : (setMap w m es c).heap.size = w.heap.size := by
  simp [setMap]
theorem setMap_below {base : Nat} (w : World) {m : Nat} (es : Array MapEntry) (c : Nat) (hm : base ≤ m) : Below base w (setMap w m es c) :=
  ⟨rfl, rfl, rfl, by rw [setMap_size]; exact Nat.le_refl _, fun k hk => setMap_other w m es c (by omega)⟩
theorem row_far {w : World} {base : Nat} {v : Value} {ts : List Tm} (h : RowT w base v ts) {k : Nat} {o : Obj} (hk : w.heap[k]? = some o) (ho : ∀ c fz, o ≠ .cells c 39 fz) : v.ownBlock ≠ some k := by
  rcases h with ⟨rfl, _⟩ | ⟨g, cap, cur, rfl, _, hg, _⟩
  · simp [Value.ownBlock]
  · intro e
    simp only [Value.ownBlock, Option.some.injEq] at e
    subst e
    rw [hg] at hk
    exact ho _ _ (Option.some.inj hk).symm
theorem dict_far (a b c : Value) : ∀ cs fz, (Obj.cells #[a, b, c] 89 (0, 0)) ≠ .cells cs 39 fz := by
  intro cs fz e
  injection e with _ h _
  exact absurd h (by decide)
theorem map_far (es : Array MapEntry) (c : Nat) : ∀ cs fz, (Obj.map es c) ≠ .cells cs 39 fz := fun _ _ e => by cases e
theorem put_mid {base p m : Nat} {ts : List Tm} {room : Int} {w2 : World} {v : Value} {es : Array MapEntry} {clock : Nat} (n : Nat) (es' : Array MapEntry) (c' : Nat)
    (h1 : w2.heap[p]? = some (.cells #[v, .map (some m), .int .i64 room] 89 (0, 0))) (h2 : w2.heap[m]? = some (.map es clock)) (h4 : RowT w2 base v ts) :
    (setMap (w2.drewN n) m es' c').heap[p]? = some (.cells #[v, .map (some m), .int .i64 room] 89 (0, 0)) ∧ RowT (setMap (w2.drewN n) m es' c') base v ts ∧ (setMap (w2.drewN n) m es' c').heap.size = w2.heap.size := by
  have hpm : p ≠ m := by
    rintro rfl
    rw [h1] at h2
    cases h2
  refine ⟨(setMap_other _ _ _ _ hpm).trans h1, rowT_kept h4 fun g hg => setMap_other _ _ _ _ ?_, setMap_size _ _ _ _⟩
  rintro rfl
  exact row_far h4 h2 (map_far _ _) hg
theorem rowT_alloc {w : World} {base : Nat} {v : Value} {ts : List Tm} (h : RowT w base v ts) (o : Obj) : RowT (w.alloc o) base v ts := rowT_below h ((Below.refl _ _).alloc (Nat.le_refl _) o)
theorem put_store {base p m : Nat} {room : Int} {v : Value} {ts : List Tm} {W w4 : World} {o : Obj} (h1 : W.heap[p]? = some (.cells #[v, .map (some m), .int .i64 room] 89 (0, 0))) (h4 : RowT W base v ts) (hg : (W.alloc o).grownBy w4 v.ownBlock) :
    w4.heap[p]? = some (.cells #[v, .map (some m), .int .i64 room] 89 (0, 0)) := by
  have hp := lt_heap h1
  rw [hg.block p (by simp; omega) (fun e => row_far h4 h1 (dict_far _ _ _) e.symm), Below.heap_alloc _ _ _ hp]
  exact h1
theorem new_cell (w : World) (x : Value) (t : TypeId) : (w.alloc (.cells #[x] t)).cell? ⟨w.heap.size, 0, none⟩ = some x := by
  have h := cell_one_new w x t 0 x rfl
  have e : (⟨w.heap.size, 0, none⟩ : Addr).add 0 = ⟨w.heap.size, 0, none⟩ := rfl
  rw [e] at h
  exact h
theorem set_first {w : World} {p : Nat} {v b c : Value} {T : TypeId} (h : w.heap[p]? = some (.cells #[v, b, c] T (0, 0))) (v' : Value) : (w.setCell ⟨p, 0, none⟩ v').heap[p]? = some (.cells #[v', b, c] T (0, 0)) := by
  have hlt := lt_heap h
  have h' : w.heap[p] = .cells #[v, b, c] T (0, 0) := by simpa [Array.getElem?_eq_getElem hlt] using h
  show (w.heap.modify p _)[p]? = _
  rw [Array.getElem?_eq_getElem (by simpa using hlt), Array.getElem_modify_self, h']
  rfl
theorem put_done {base p m : Nat} {ts : List Tm} {room : Int} {w w2 W w4 : World} {v : Value} {es : Array MapEntry} {clock n : Nat} {o : Obj} {x : Tm} {g cap : Nat} (hb : Below w.heap.size w w2) (hbase : base ≤ w.heap.size)
    (h2 : w2.heap[m]? = some (.map es clock)) (h3 : Ents es ts) (h5 : base ≤ p) (h6 : base ≤ m) (h7 : ∀ k ∈ ts, KeyT k) (hx : KeyT x) (hl : ts.length < 65536)
    (hW : W = setMap (w2.drewN n) m (es.push { key := tmV x, val := .int .i64 ts.length, born := clock }) (clock + 1))
    (m1 : W.heap[p]? = some (.cells #[v, .map (some m), .int .i64 room] 89 (0, 0))) (m2 : RowT W base v ts)
    (hr : RowT w4 base (.slice (some ⟨g, 0, none⟩) (ts.length + 1) cap) (ts ++ [x])) (hg : (W.alloc o).grownBy w4 v.ownBlock) :
    DcAt base p m (ts ++ [x]) room (w4.setCell ⟨p, 0, none⟩ (.slice (some ⟨g, 0, none⟩) (ts.length + 1) cap)) ∧ DK base p m w (w4.setCell ⟨p, 0, none⟩ (.slice (some ⟨g, 0, none⟩) (ts.length + 1) cap)) := by
  have hmw : W.heap[m]? = some (.map (es.push { key := tmV x, val := .int .i64 ts.length, born := clock }) (clock + 1)) := by
    rw [hW]
    exact setMap_same _ _ _ (lt_heap h2)
  have far : ∀ (k : Nat) (o' : Obj), W.heap[k]? = some o' → (∀ c fz, o' ≠ .cells c 39 fz) → w4.heap[k]? = some o' := by
    intro k o' hk ho
    have hlt := lt_heap hk
    rw [hg.block k (by simp; omega) (fun e => row_far m2 hk ho e.symm), Below.heap_alloc _ _ _ hlt]
    exact hk
  have hm4 := far m _ hmw (map_far _ _)
  have hp4 := far p _ m1 (dict_far _ _ _)
  have hpm : p ≠ m := by
    rintro rfl
    rw [hp4] at hm4
    cases hm4
  have hbW : Below base w W := by
    rw [hW]
    exact (below_drewN (hb.mono hbase) n).trans (setMap_below _ _ _ h6)
  refine ⟨⟨_, _, _, set_first hp4 _, (Below.heap_setCell w4 ⟨p, 0, none⟩ _ m (Ne.symm hpm)).trans hm4, ents_push h3 x clock, ?_, h5, h6, ?_, by simp; omega⟩, ?_, ?_⟩
  · refine rowT_kept hr fun g' hg' => Below.heap_setCell _ _ _ _ ?_
    intro e
    exact row_far hr hp4 (dict_far _ _ _) (hg'.trans (congrArg some e))
  · intro k hk
    rw [List.mem_append, List.mem_singleton] at hk
    rcases hk with hk | rfl
    · exact h7 k hk
    · exact hx
  · have hsz : base ≤ W.heap.size := Nat.le_trans hbase hbW.size
    refine ((hbW.alloc hsz o).grown hg (by simp; omega) ?_).setCell (p := ⟨p, 0, none⟩) h5 _
    intro k hk
    rcases m2 with ⟨rfl, _⟩ | ⟨g', _, _, rfl, hbg, _⟩
    · simp [Value.ownBlock] at hk
    · simp only [Value.ownBlock, Option.some.injEq] at hk
      omega
  · intro k o' hk hkp hkm ho
    have hw2 : w2.heap[k]? = some o' := (hb.block k (lt_heap hk)).trans hk
    have hWk : W.heap[k]? = some o' := by
      rw [hW]
      exact (setMap_other _ _ _ _ hkm).trans hw2
    exact (Below.heap_setCell w4 ⟨p, 0, none⟩ _ k hkp).trans (far k o' hWk ho)
set_option maxHeartbeats 3200000 in
theorem put_new {base p m : Nat} {ts : List Tm} {room : Int} {w : World} (x : Tm) (hx : KeyT x) (h : DcAt base p m ts room w) (hg : GoodAt x true w) (hj : idxT x ts = none) (hr : (ts.length : Int) < room) (hl : ts.length < 65536) (hbase : base ≤ w.heap.size) :
    Calls Try.prog 13 #[.pointer (some ⟨p, 0, none⟩), tmV x] w fun e w' => e = .returned (.tuple #[.int .i64 ts.length, .int .i64 0]) ∧ DcAt base p m (ts ++ [x]) room w' ∧ DK base p m w w' := by
  have hf := find_good x hx h (hg w (Below.refl _ _))
  unfold findV at hf
  rw [hj] at hf
  have HF := Lib.hid hf
  have HG := Lib.hid hg
  have HD := Lib.hid h
  have HJ := Lib.hid hj
  have HX := Lib.hid hx
  have HU := Lib.hid (fun w1 (es : Array MapEntry) (clock : Nat) (h2 : w1.heap[m]? = some (.map es clock)) (h3 : Ents es ts) (h7 : ∀ k ∈ ts, KeyT k) => update_run x hx (.int .i64 ts.length) w1 m es clock ts h2 h3 h7 hj)
  have t1 : decide ((ts.length : Int) ≥ room) = false := decide_eq_false (by omega)
  clear hg h hf hj hx
  unfold GoodAt at HG
  obtain ⟨T, Y, hX⟩ : ∃ T Y, tmV x = .iface T Y := by
    have hx := HX.out
    cases x with
    | blank s => exact ⟨_, _, rfl⟩
    | iri s => exact ⟨_, _, rfl⟩
    | lit s t l => exact ⟨_, _, rfl⟩
    | odd n => exact hx.elim
    | none => exact hx.elim
  rw [hX] at HF HG HU ⊢
  have HXX := Lib.hid hX
  clear hX
  go_enter Try.func13, Try.ntmps13
  go_wp2_with fail
  refine HF.out.mono ?_
  rintro e w1 ⟨rfl, hb⟩
  go_wp2_with fail
  refine (HG.out w1 hb).mono ?_
  rintro e w2 ⟨rfl, hb2⟩
  obtain ⟨v, es, clock, h1, h2, h3, h4, h5⟩ := (HD.out.keep hb).keep hb2
  obtain ⟨a, cap, rfl⟩ := rowT_form h4
  obtain ⟨c0, c1, c2, f0⟩ := cells3 h1
  have HH := Lib.hid (⟨h1, h2, h3, h4, h5⟩ : _ ∧ _ ∧ _ ∧ _ ∧ _)
  clear h1 h3 h4 h5 f0
  go_wp2_with fail
  go_quiet (fail)
  go_wp2_with fail
  have hu := HU.out (w2.drewN (nq + 1)) es clock h2 HH.out.2.2.1 HH.out.2.2.2.2.2.2.1
  go_region
  obtain ⟨m1, m2, m3⟩ := put_mid (nq + 1) (es.push { key := .iface T Y, val := .int .i64 ts.length, born := clock }) (clock + 1) HH.out.1 h2 HH.out.2.2.2.1
  obtain ⟨W, hW⟩ : ∃ W, W = setMap (w2.drewN (nq + 1)) m (es.push { key := .iface T Y, val := .int .i64 ts.length, born := clock }) (clock + 1) := ⟨_, rfl⟩
  rw [← hW] at m1 m2 m3 ⊢
  have HW := Lib.hid hW
  have HM := Lib.hid m2
  obtain ⟨d0, d1, d2, g0⟩ := cells3 m1
  have M1 := Lib.hid m1
  have hpl := lt_heap m1
  have hsz : base ≤ W.heap.size := by rw [m3]; exact Nat.le_trans hbase (Nat.le_trans hb.size hb2.size)
  clear hu hW m1 m2 m3 c0 c1 c2
  go_wp2_with (at_builtin; go_loud (refine wpList_append_row _ rfl (.tmp 47) (.tmp 49) rfl base _ ts x rfl (rowT_alloc HM.out _) ⟨W.heap.size, 0, none⟩ rfl (by rw [HXX.out]; exact new_cell _ _ _) (by omega) (by simp; omega) rfl ?_); intro g cap2 w4 hr4 hg4 ho4 hl4; obtain ⟨e0, e1, e2, k0⟩ := cells3 (put_store M1.out HM.out hg4))
  go_wp2_with fail
  go_ret2
  obtain ⟨q1, q2, q3, q4, q5, q6, q7, q8⟩ := HH.out
  have hW := HW.out
  rw [← HXX.out] at hW
  exact ⟨rfl, put_done (hb.trans (hb2.mono hb.size)) hbase q2 q3 q5 q6 q7 HX.out hl hW M1.out HM.out hr4 hg4⟩
end Go.Proofs.Ytghimladdioajaa
