/- Plain laws of a dictionary's Put and Cut (by the plain functions), what stays over its calls. No program is walked here. -/
import Derived.Test.YtghimladdioajaaDcIs
namespace Go.Proofs.Ytghimladdioajaa
open Go Go.RowKit
set_option linter.unusedVariables false
set_option linter.unusedSimpArgs false
def putAll (G : Tm → Bool) (room : Int) (ts : List Tm) (xs : List Tm) : List Tm := xs.foldl (fun ts x => (putT G room ts x).1) ts
theorem putAll_nil (G : Tm → Bool) (room : Int) (ts : List Tm) : putAll G room ts [] = ts := rfl
theorem putAll_snoc (G : Tm → Bool) (room : Int) (ts xs : List Tm) (x : Tm) : putAll G room ts (xs ++ [x]) = (putT G room (putAll G room ts xs) x).1 := by
  unfold putAll
  rw [List.foldl_append]
  rfl
theorem putT_len (G : Tm → Bool) (room : Int) (ts : List Tm) (x : Tm) : (putT G room ts x).1.length ≤ ts.length + 1 := by
  unfold putT
  split
  · simp
  · split
    · simp
    · split
      · simp
      · simp
theorem putAll_len (G : Tm → Bool) (room : Int) : ∀ (xs ts : List Tm), (putAll G room ts xs).length ≤ ts.length + xs.length
  | [], ts => by simp [putAll]
  | x :: xs, ts => by
    have h1 := putAll_len G room xs (putT G room ts x).1
    have h2 := putT_len G room ts x
    show (putAll G room (putT G room ts x).1 xs).length ≤ _
    rw [List.length_cons]
    omega
/-- what is there stays there -/
theorem idx_append {x : Tm} {ts : List Tm} {j : Nat} (h : idxT x ts = some j) (us : List Tm) : idxT x (ts ++ us) = some j := by
  unfold idxT at h ⊢
  rw [List.findIdx?_append, h]
  rfl
theorem putT_pre (G : Tm → Bool) (room : Int) (ts : List Tm) (x : Tm) : ∃ us, (putT G room ts x).1 = ts ++ us := by
  unfold putT
  split
  · exact ⟨[], by simp⟩
  · split
    · exact ⟨[], by simp⟩
    · split
      · exact ⟨[], by simp⟩
      · exact ⟨[x], rfl⟩
theorem putAll_pre (G : Tm → Bool) (room : Int) : ∀ (xs ts : List Tm), ∃ us, putAll G room ts xs = ts ++ us
  | [], ts => ⟨[], by simp [putAll]⟩
  | x :: xs, ts => by
    obtain ⟨u, hu⟩ := putT_pre G room ts x
    obtain ⟨v, hv⟩ := putAll_pre G room xs (putT G room ts x).1
    exact ⟨u ++ v, by show putAll G room (putT G room ts x).1 xs = _; rw [hv, hu, List.append_assoc]⟩
theorem idx_last {x : Tm} (hx : KeyT x) {ts : List Tm} (h : idxT x ts = none) : idxT x (ts ++ [x]) = some ts.length := by
  unfold idxT at h ⊢
  rw [List.findIdx?_append, h]
  simp [List.findIdx?_cons, eqT_self hx]
/-- where there is room, what is good is there behind -/
theorem putT_there {G : Tm → Bool} {room : Int} {ts : List Tm} {x : Tm} (hx : KeyT x) (hg : G x = true) (hr : (ts.length : Int) < room) : ∃ j, idxT x (putT G room ts x).1 = some j := by
  unfold putT
  rw [hg]
  simp only [Bool.true_eq_false, if_false]
  cases h : idxT x ts with
  | some j => exact ⟨j, h⟩
  | none =>
    simp only [if_neg (show ¬ room ≤ (ts.length : Int) by omega)]
    exact ⟨_, idx_last hx h⟩
theorem putAll_there {G : Tm → Bool} {room : Int} : ∀ (xs ts : List Tm), (∀ x ∈ xs, KeyT x) → ((ts.length + xs.length : Nat) : Int) ≤ room → ∀ x ∈ xs, G x = true → ∃ j, idxT x (putAll G room ts xs) = some j
  | [], ts, _, _, x, hx, _ => by simp at hx
  | y :: xs, ts, hk, hr, x, hx, hg => by
    rw [List.length_cons] at hr
    have hl := putT_len G room ts y
    show ∃ j, idxT x (putAll G room (putT G room ts y).1 xs) = some j
    rcases List.mem_cons.1 hx with rfl | hx'
    · obtain ⟨j, hj⟩ := putT_there (hk x (by simp)) hg (show (ts.length : Int) < room by omega)
      obtain ⟨us, hu⟩ := putAll_pre G room xs (putT G room ts x).1
      rw [hu]
      exact ⟨j, idx_append hj us⟩
    · exact putAll_there xs _ (fun z hz => hk z (by simp [hz])) (by omega) x hx' hg
/-- put again: nothing changes -/
theorem putT_same {G : Tm → Bool} {room : Int} {ts : List Tm} {x : Tm} (h : G x = true → ∃ j, idxT x ts = some j) : (putT G room ts x).1 = ts := by
  unfold putT
  cases hg : G x with
  | false => rfl
  | true =>
    obtain ⟨j, hj⟩ := h hg
    simp only [Bool.true_eq_false, if_false]
    rw [hj]
theorem putAll_same {G : Tm → Bool} {room : Int} {ts : List Tm} : ∀ xs : List Tm, (∀ x ∈ xs, G x = true → ∃ j, idxT x ts = some j) → putAll G room ts xs = ts
  | [], _ => rfl
  | x :: xs, h => by
    show putAll G room (putT G room ts x).1 xs = ts
    rw [putT_same (h x (by simp))]
    exact putAll_same xs fun y hy => h y (by simp [hy])
theorem fine_put {G : Tm → Bool} {room : Int} {ts : List Tm} {x : Tm} (h : Fine G ts) (hx : KeyT x) (hz : Small x) : Fine G (putT G room ts x).1 := by
  unfold putT
  cases hg : G x with
  | false => exact h
  | true =>
    simp only [Bool.true_eq_false, if_false]
    cases idxT x ts with
    | some j => exact h
    | none =>
      show Fine G (if room ≤ ↑ts.length then (ts, 0, 6) else (ts ++ [x], (ts.length : Int), 0)).1
      split
      · exact h
      · intro y hy
        rcases List.mem_append.1 hy with hy | hy
        · exact h y hy
        · rw [List.mem_singleton] at hy
          subst hy
          exact ⟨hx, hz, hg⟩
theorem termK_key (k : Int) (x t l : ByteArray) : KeyT (termK k x t l) := by
  unfold termK
  split
  · trivial
  · split <;> trivial
section
variable {base p m : Nat} {ts : List Tm} {room : Int} {w w' : World}
theorem DcAt.parts (h : DcAt base p m ts room w) : ∃ v es clock, w.heap[p]? = some (.cells #[v, .map (some m), .int .i64 room] 89 (0, 0)) ∧ w.heap[m]? = some (.map es clock) ∧ RowT w base v ts := by
  obtain ⟨v, es, clock, h1, h2, h3, h4, h5⟩ := h
  exact ⟨v, es, clock, h1, h2, h4⟩
/-- a block of the law's own, over a call of the dictionary -/
theorem DcAt.box {base' b : Nat} {cs : Array Value} {T : TypeId} (h : DcAt base p m ts room w) (hk : DK base' p m w w') (hb : w.heap[b]? = some (.cells cs T (0, 0))) (h1 : T ≠ 39) (h2 : T ≠ 89) : w'.heap[b]? = some (.cells cs T (0, 0)) := by
  obtain ⟨v, es, clock, e1, e2, _⟩ := h.parts
  refine hk.2 b _ hb ?_ ?_ ?_
  · rintro rfl
    rw [e1] at hb
    injection hb with hb
    injection hb with _ hb _
    exact h2 hb.symm
  · rintro rfl
    rw [e2] at hb
    cases hb
  · intro c fz e
    injection e with _ e _
    exact h1 e
theorem row_block {α : Type} {T : TypeId} {size : Nat} {c : α → List Value} {base : Nat} {V : Value} {l : List α} (h : RowOf T size c w base V l) : (V = .slice none 0 0 ∧ l = []) ∨ ∃ g cap cur, V = .slice (some ⟨g, 0, none⟩) l.length cap ∧ w.heap[g]? = some (.cells cur T (0, 0)) := by
  obtain ⟨_, (⟨rfl, h0⟩ | ⟨g, cap, cur, rfl, _, hg, _⟩)⟩ := h
  · exact .inl ⟨rfl, List.eq_nil_of_length_eq_zero h0⟩
  · exact .inr ⟨g, cap, cur, rfl, hg⟩
theorem row_of_block {α : Type} {T : TypeId} {size : Nat} {c : α → List Value} {base : Nat} {V : Value} {l : List α} (h : RowOf T size c w base V l) (hk : ∀ (g : Nat) (cur : Array Value), w.heap[g]? = some (Obj.cells cur T (0, 0)) → w'.heap[g]? = some (Obj.cells cur T (0, 0))) : RowOf T size c w' base V l := by
  obtain ⟨h1, (h2 | ⟨g, cap, cur, hv, hb, hg, hr⟩)⟩ := h
  · exact ⟨h1, .inl h2⟩
  · exact ⟨h1, .inr ⟨g, cap, cur, hv, hb, hk g cur hg, hr⟩⟩
theorem DcAt.row {α : Type} {T : TypeId} {size : Nat} {c : α → List Value} {base' base2 : Nat} {V : Value} {l : List α} (h : DcAt base p m ts room w) (hk : DK base' p m w w') (hr : RowOf T size c w base2 V l) (h1 : T ≠ 39) (h2 : T ≠ 89) : RowOf T size c w' base2 V l :=
  row_of_block hr fun g cur hg => h.box hk hg h1 h2
/-- a store into a block of another type -/
theorem DcAt.set {b i : Nat} {cs : Array Value} {T : TypeId} (h : DcAt base p m ts room w) (hb : w.heap[b]? = some (.cells cs T (0, 0))) (h1 : T ≠ 39) (h2 : T ≠ 89) (v : Value) : DcAt base p m ts room (w.setCell ⟨b, i, none⟩ v) := by
  obtain ⟨v0, es, clock, e1, e2, e3, e4, e5⟩ := h
  have hp : p ≠ b := by
    rintro rfl
    rw [e1] at hb
    injection hb with hb
    injection hb with _ hb _
    exact h2 hb.symm
  have hm : m ≠ b := by
    rintro rfl
    rw [e2] at hb
    cases hb
  refine ⟨v0, es, clock, (Below.heap_setCell w ⟨b, i, none⟩ v p hp).trans e1, (Below.heap_setCell w ⟨b, i, none⟩ v m hm).trans e2, e3, rowT_kept e4 fun g hg => Below.heap_setCell w ⟨b, i, none⟩ v g ?_, e5⟩
  rintro rfl
  refine row_far e4 hb ?_ hg
  intro c fz e
  injection e with _ e _
  exact h1 e
theorem RowOf.set_other {α : Type} {T U : TypeId} {size : Nat} {c : α → List Value} {base2 b i : Nat} {cs : Array Value} {V : Value} {l : List α} (hr : RowOf T size c w base2 V l) (hb : w.heap[b]? = some (.cells cs U (0, 0))) (h1 : T ≠ U) (v : Value) : RowOf T size c (w.setCell ⟨b, i, none⟩ v) base2 V l := by
  refine row_of_block hr fun g cur hg => (Below.heap_setCell w ⟨b, i, none⟩ v g ?_).trans hg
  rintro rfl
  rw [hg] at hb
  injection hb with hb
  injection hb with _ hb _
  exact h1 hb
theorem box_alloc {b : Nat} {o o' : Obj} (h : w.heap[b]? = some o) : (w.alloc o').heap[b]? = some o := (Below.heap_alloc w o' b (lt_heap h)).trans h
theorem box_new (w : World) (cs : Array Value) (T : TypeId) : (w.alloc (.cells cs T)).heap[w.heap.size]? = some (.cells cs T (0, 0)) := (MapKept.heap_alloc w _).1
theorem box_below {b : Nat} {o : Obj} (h : w.heap[b]? = some o) (hb : Below w.heap.size w w') : w'.heap[b]? = some o := (hb.block b (lt_heap h)).trans h
theorem box_other {b : Nat} {o : Obj} {a : Addr} {v : Value} (h : w.heap[b]? = some o) (hne : b ≠ a.block) : (w.setCell a v).heap[b]? = some o := (Below.heap_setCell w a v b hne).trans h
theorem cells4 {b : Nat} {x y z u : Value} {T : TypeId} (h1 : w.heap[b]? = some (.cells #[x, y, z, u] T (0, 0))) : w.cell? ⟨b, 0, none⟩ = some x ∧ w.cell? ⟨b, 1, none⟩ = some y ∧ w.cell? ⟨b, 2, none⟩ = some z ∧ w.cell? ⟨b, 3, none⟩ = some u := by
  exact ⟨by simp [World.cell?, h1], by simp [World.cell?, h1], by simp [World.cell?, h1], by simp [World.cell?, h1]⟩
theorem set_cell0 {b : Nat} {x y : Value} {T : TypeId} (h : w.heap[b]? = some (.cells #[x, y] T (0, 0))) (x' : Value) : (w.setCell ⟨b, 0, none⟩ x').heap[b]? = some (.cells #[x', y] T (0, 0)) := by
  have hlt := lt_heap h
  have h' : w.heap[b] = .cells #[x, y] T (0, 0) := by simpa [Array.getElem?_eq_getElem hlt] using h
  show (w.heap.modify b _)[b]? = _
  rw [Array.getElem?_eq_getElem (by simpa using hlt), Array.getElem_modify_self, h']
  rfl
theorem box_set2 {b : Nat} {x y : Value} {T : TypeId} (h : w.heap[b]? = some (.cells #[x, y] T (0, 0))) (x' y' : Value) : ((w.setCell ⟨b, 0, none⟩ x').setCell ⟨b, 1, none⟩ y').heap[b]? = some (.cells #[x', y'] T (0, 0)) := by
  have hlt := lt_heap h
  have h' : w.heap[b] = .cells #[x, y] T (0, 0) := by simpa [Array.getElem?_eq_getElem hlt] using h
  have h1 : (w.setCell ⟨b, 0, none⟩ x').heap[b]? = some (.cells #[x', y] T (0, 0)) := by
    show (w.heap.modify b _)[b]? = _
    rw [Array.getElem?_eq_getElem (by simpa using hlt), Array.getElem_modify_self, h']
    rfl
  have hlt1 := lt_heap h1
  have h1' : (w.setCell ⟨b, 0, none⟩ x').heap[b] = .cells #[x', y] T (0, 0) := by simpa [Array.getElem?_eq_getElem hlt1] using h1
  show ((w.setCell ⟨b, 0, none⟩ x').heap.modify b _)[b]? = _
  rw [Array.getElem?_eq_getElem (by simpa using hlt1), Array.getElem_modify_self, h1']
  rfl
end
end Go.Proofs.Ytghimladdioajaa
