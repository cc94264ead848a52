/- Rows of elements of any number of cells: what lies in them, append of one row onto another. Over whatever program. -/
import Derived.Test.YtghimladdioajaaMem
import Derived.Maps.AppendAt
import Derived.Deep.AppendLies
import Derived.RegionTactic
import Derived.OwnWalk
namespace Go.Proofs.Ytghimladdioajaa
open Go Go.RowKit
set_option linter.unusedVariables false
theorem grownBy_setCell (w : World) (p : Addr) (v : Value) : w.grownBy (w.setCell p v) (some p.block) :=
  ⟨rfl, rfl, rfl, by simp, fun k hk hne => Below.heap_setCell w p v k (fun e => hne (by rw [e]))⟩
/-- the elements' type: its slice type, its cells -/
structure Elt {α : Type} (P : Program) (t T : TypeId) (size bytes : Nat) (c : α → List Value) : Prop where
  ht : P.underlying t = some (.slice T)
  hi : ∃ (i : TypeInfo) (z : Value), P.info? T = some i ∧ i.zero = some z ∧ i.size = size ∧ i.bytes = bytes ∧ z.cells.size = size
  len : ∀ x, (c x).length = size
  one : ∀ x, ∀ u ∈ c x, u.oneCell' = true
  pos : 0 < size
  small : bytes ≤ 1000
theorem elt_info {P : Program} {T : TypeId} {z : Value} {size bytes : Nat} (h : (P.info? T).map (fun i => (i.zero, i.size, i.bytes)) = some (some z, size, bytes)) (hz : z.cells.size = size) :
    ∃ (i : TypeInfo) (z : Value), P.info? T = some i ∧ i.zero = some z ∧ i.size = size ∧ i.bytes = bytes ∧ z.cells.size = size := by
  cases hi : P.info? T with
  | none => rw [hi] at h; cases h
  | some i0 =>
    rw [hi] at h
    simp only [Option.map_some, Option.some.injEq, Prod.mk.injEq] at h
    exact ⟨i0, z, rfl, h.1, h.2.1, h.2.2, hz⟩
/-- a row that reads as a list -/
def RowOf {α : Type} (T : TypeId) (size : Nat) (c : α → List Value) (w : World) (base : Nat) (V : Value) (l : List α) : Prop := w.ownsRow base T size V l.length (l.flatMap c)
section
variable {α : Type} {P : Program} {t T : TypeId} {size bytes : Nat} {c : α → List Value}
theorem flat_len (hl : ∀ x, (c x).length = size) : ∀ l : List α, (l.flatMap c).length = l.length * size
  | [] => by simp
  | x :: l => by rw [List.flatMap_cons, List.length_append, hl, flat_len hl l, List.length_cons, Nat.add_mul]; omega
theorem flat_get (hl : ∀ x, (c x).length = size) : ∀ (l : List α) (j k : Nat) (hj : j < l.length), k < size → (l.flatMap c)[j * size + k]? = (c (l[j]'hj))[k]?
  | [], j, k, hj, _ => by simp at hj
  | x :: l, 0, k, _, hk => by
    rw [List.flatMap_cons, Nat.zero_mul, Nat.zero_add, List.getElem?_append_left (by rw [hl]; exact hk)]
    rfl
  | x :: l, j + 1, k, hj, hk => by
    have ih := flat_get hl l j k (by simpa using hj) hk
    rw [List.flatMap_cons, List.getElem?_append_right (by rw [hl, Nat.add_mul]; omega), hl]
    rw [show (j + 1) * size + k - size = j * size + k by rw [Nat.add_mul]; omega, ih]
    rfl
theorem RowOf.below {w w' : World} {base : Nat} {V : Value} {l : List α} (h : RowOf T size c w base V l) (hb : Below w.heap.size w w') : RowOf T size c w' base V l := ownsRow_below h hb
theorem RowOf.base {w : World} {b b' : Nat} {V : Value} {l : List α} (h : RowOf T size c w b V l) (hb : b' ≤ b) : RowOf T size c w b' V l := ownsRow_base h hb
theorem RowOf.nil (w : World) (base : Nat) : RowOf T size c w base (.slice none 0 0) [] := World.ownsRow_nil w base T size
theorem RowOf.form {w : World} {base : Nat} {V : Value} {l : List α} (h : RowOf T size c w base V l) : ∃ a cap, V = .slice a l.length cap := by
  obtain ⟨_, (⟨rfl, h0⟩ | ⟨g, cap, _, rfl, _⟩)⟩ := h
  · exact ⟨none, 0, by rw [h0]⟩
  · exact ⟨_, cap, rfl⟩
theorem RowOf.form_cap {w : World} {base : Nat} {V : Value} {l : List α} (h : RowOf T size c w base V l) : ∃ a cap, V = .slice a l.length cap ∧ l.length ≤ cap := by
  obtain ⟨_, (⟨rfl, h0⟩ | ⟨g, cap, _, rfl, _, _, hn, _⟩)⟩ := h
  · exact ⟨none, 0, by rw [h0], by omega⟩
  · exact ⟨_, cap, rfl, hn⟩
theorem RowOf.at_ {w : World} {base : Nat} {V : Value} {l : List α} (hl : ∀ x, (c x).length = size) (h : RowOf T size c w base V l) (j : Nat) (hj : j < l.length) :
    ∃ g cap, V = .slice (some ⟨g, 0, none⟩) l.length cap ∧ base ≤ g ∧ g < w.heap.size ∧ ∀ k u, k < size → (c (l[j]'hj))[k]? = some u → w.cell? ⟨g, j * size + k, none⟩ = some u := by
  obtain ⟨h1, (⟨rfl, h0⟩ | ⟨g, cap, cur, rfl, hb, hg, hn, hm, hs, ht⟩)⟩ := h
  · omega
  · refine ⟨g, cap, rfl, hb, (Array.getElem?_eq_some_iff.1 hg).1, fun k u hk hu => ?_⟩
    rw [cell_of_row w g _ cur _ (0, 0) hg]
    have h2 := flat_get hl l j k hj hk
    rw [← ht, hu, List.getElem?_take] at h2
    split at h2
    · simpa using h2
    · cases h2
/-- a row of the call's own, made of its elements alone -/
theorem RowOf.new (hl : ∀ x, (c x).length = size) (w : World) (l : List α) (hn : l.length ≤ 200000) : RowOf T size c (w.alloc (.cells (l.flatMap c).toArray T)) w.heap.size (.slice (some ⟨w.heap.size, 0, none⟩) l.length l.length) l := by
  refine ⟨flat_len hl l, .inr ⟨w.heap.size, l.length, _, rfl, Nat.le_refl _, heap_alloc_new w _, Nat.le_refl _, by unfold maxLen; omega, ?_, ?_⟩⟩
  · rw [List.size_toArray, flat_len hl]
  · rw [← flat_len hl, List.take_length]
theorem RowOf.own_lt {w : World} {base : Nat} {V : Value} {l : List α} (h : RowOf T size c w base V l) : ∀ k, V.ownBlock = some k → base ≤ k ∧ k < w.heap.size := World.ownsRow.lt h
theorem RowOf.kept_row {w w' : World} {base : Nat} {V : Value} {l : List α} {row : Option Nat} (h : RowOf T size c w base V l) (hg : w.grownBy w' row) (hne : V.ownBlock ≠ row) : RowOf T size c w' base V l := World.ownsRow.kept h hg (.inr hne)
theorem RowOf.set_far {w : World} {base : Nat} {V : Value} {l : List α} (h : RowOf T size c w base V l) {p : Addr} (hp : p.block < base) (v : Value) : RowOf T size c (w.setCell p v) base V l := by
  refine h.kept_row (grownBy_setCell w p v) fun e => ?_
  have := (World.ownsRow.lt h _ e).1
  omega
theorem RowOf.take {w : World} {base : Nat} {g n cap : Nat} {l : List α} (hl : ∀ x, (c x).length = size) (h : RowOf T size c w base (.slice (some ⟨g, 0, none⟩) n cap) l) (j : Nat) (hj : j ≤ l.length) : RowOf T size c w base (.slice (some ⟨g, 0, none⟩) j cap) (l.take j) := by
  obtain ⟨h1, (⟨hv, h0⟩ | ⟨g', cap', cur, hv, hb, hg, hn, hm, hs, ht⟩)⟩ := h
  · cases hv
  · injection hv with hv1 _ hv3
    injection hv1 with hv2
    injection hv2 with hv4 _ _
    subst hv4; subst hv3
    have hlt : (l.take j).length = j := by rw [List.length_take]; omega
    refine ⟨flat_len hl _, .inr ⟨g, cap, cur, by rw [hlt], hb, hg, by omega, hm, hs, ?_⟩⟩
    rw [hlt]
    have h2 := congrArg (List.take (j * size)) ht
    rw [List.take_take, Nat.min_eq_left (Nat.mul_le_mul_right _ hj)] at h2
    rw [h2]
    have h3 : l.flatMap c = (l.take j).flatMap c ++ (l.drop j).flatMap c := by rw [← List.flatMap_append, List.take_append_drop]
    rw [h3]
    refine List.take_left' ?_
    rw [flat_len hl, hlt]
theorem run_append_rows (E : Elt P t T size bytes c) (ty : TypeId) (w : World) (base b2 : Nat) (V V2 : Value) (us vs : List α) (h : RowOf T size c w base V us) (h2 : RowOf T size c w b2 V2 vs) (hn : us.length + vs.length ≤ 200000) (hbase : base ≤ w.heap.size) :
    ∃ V' w', (Builtin.append_ #[t, t] ty #[V, V2]).run P w = .ok V' w' ∧ RowOf T size c w' base V' (us ++ vs) ∧ w.grownBy w' V.ownBlock ∧ (V'.ownBlock = V.ownBlock ∨ V'.ownBlock = some w.heap.size) := by
  obtain ⟨i, z, hi, hz, hs, hby, hzs⟩ := E.hi
  have hmul : (us.length + vs.length) * bytes ≤ 200000 * 1000 := Nat.mul_le_mul hn E.small
  rcases (show (V2 = .slice none 0 0 ∧ vs = []) ∨ ∃ g cap, V2 = .slice (some ⟨g, 0, none⟩) vs.length cap from by
    obtain ⟨_, (⟨rfl, h0⟩ | ⟨g, cap, _, rfl, _⟩)⟩ := h2
    · exact .inl ⟨rfl, List.eq_nil_of_length_eq_zero h0⟩
    · exact .inr ⟨g, cap, rfl⟩) with ⟨rfl, rfl⟩ | ⟨g, cap, rfl⟩
  · refine ⟨V, w, ?_, by simpa using h, World.grownBy.refl w _, .inl rfl⟩
    rcases h.2 with ⟨rfl, h0⟩ | ⟨g, cap, cur, rfl, _, _, hnc, _⟩
    · simp [Builtin.append_, run_underlying E.ht, sizeOf, typeInfo, hi, Builtin.lenOf, Builtin.firstCells]
    · simp [Builtin.append_, run_underlying E.ht, sizeOf, typeInfo, hi, Builtin.lenOf, Builtin.firstCells, hnc, storeCells]
  · obtain ⟨V', w', hr, h3, h4, _, h5⟩ := run_append_own_at (P := P) w base t ty T i z size bytes E.ht hi hz hs hby hzs E.pos V us.length (us.flatMap c) h ⟨g, 0, none⟩ vs.length cap (vs.flatMap c) (flat_len E.len vs) (World.ownsRow.cells (g := g) h2 rfl) (fun u hu => by
      obtain ⟨x, _, hx⟩ := List.mem_flatMap.1 hu
      exact E.one x u hx) (by unfold maxLen; omega) (by omega) hbase
    exact ⟨V', w', hr, by unfold RowOf; rw [List.length_append, List.flatMap_append]; exact h3, h4, h5⟩
theorem wp_append_rows (E : Elt P t T size bytes c) {o : Oper} {a : Act} {K : Act → World → Prop} {Q : Exit → Act → World → Prop} (w : World) (s x : Operand) (ho : o.op = .call { callee := .builtin .append, args := #[s, x], argTypes := #[t, t] })
    (base b2 : Nat) (V V2 : Value) (us vs : List α) (hs : a.eval s = V) (hx : a.eval x = V2) (h : RowOf T size c w base V us) (h2 : RowOf T size c w b2 V2 vs) (hn : us.length + vs.length ≤ 200000) (hbase : base ≤ w.heap.size)
    (hk : ∀ V' w', RowOf T size c w' base V' (us ++ vs) → w.grownBy w' V.ownBlock → (V'.ownBlock = V.ownBlock ∨ V'.ownBlock = some w.heap.size) → K (a.put o.dst V') w') : o.wp P a w K Q := by
  obtain ⟨V', w', hr, h3, h4, h5⟩ := run_append_rows E o.type w base b2 V V2 us vs h h2 hn hbase
  unfold Oper.wp execOp
  simp only [ho, resolve, invoke, builtin, Sem.run_bind, Sem.run_pure, Result.andThen_ok, List.map_toArray, List.map_cons, List.map_nil, hs, hx, hr]
  exact hk V' w' h3 h4 h5
theorem wpList_append_rows (E : Elt P t T size bytes c) {ops : Array Oper} {rest : List Oper} {o : Oper} {a : Act} {Q : Exit → Act → World → Prop} (w : World) (hgd : o.guard = none) (s x : Operand) (ho : o.op = .call { callee := .builtin .append, args := #[s, x], argTypes := #[t, t] })
    (base b2 : Nat) (V V2 : Value) (us vs : List α) (hs : a.eval s = V) (hx : a.eval x = V2) (h : RowOf T size c w base V us) (h2 : RowOf T size c w b2 V2 vs) (hn : us.length + vs.length ≤ 200000) (hbase : base ≤ w.heap.size)
    (hk : ∀ V' w', RowOf T size c w' base V' (us ++ vs) → w.grownBy w' V.ownBlock → (V'.ownBlock = V.ownBlock ∨ V'.ownBlock = some w.heap.size) → wpList P ops Q rest (a.put o.dst V') w') : wpList P ops Q (o :: rest) a w :=
  wpList_plain hgd fun _ hK => wp_append_rows E w s x ho base b2 V V2 us vs hs hx h h2 hn hbase fun V' w' h3 h4 h5 => hK _ _ (hk V' w' h3 h4 h5)
theorem step_append_rows (E : Elt P t T size bytes c) {ops : Array Oper} {o : Oper} {a : Act} {K : Act → World → Prop} {Q : Exit → Act → World → Prop} {F : Prop} (w : World) (hgd : o.guard = none) (s x : Operand) (ho : o.op = .call { callee := .builtin .append, args := #[s, x], argTypes := #[t, t] })
    (base b2 : Nat) (V V2 : Value) (us vs : List α) (hs : a.eval s = V) (hx : a.eval x = V2) (h : RowOf T size c w base V us) (h2 : RowOf T size c w b2 V2 vs) (hn : us.length + vs.length ≤ 200000) (hbase : base ≤ w.heap.size)
    (hk : ∀ V' w', RowOf T size c w' base V' (us ++ vs) → w.grownBy w' V.ownBlock → (V'.ownBlock = V.ownBlock ∨ V'.ownBlock = some w.heap.size) → K (a.put o.dst V') w') : if Region.wanted o (yielded ops a.tmps) = true then Oper.wp P o a w K Q else F := by
  have hw : Region.wanted o (yielded ops a.tmps) = true := by simp [Region.wanted, hgd]
  rw [if_pos hw]
  exact wp_append_rows E w s x ho base b2 V V2 us vs hs hx h h2 hn hbase hk
end
end Go.Proofs.Ytghimladdioajaa
