/- Triples as values over this seat's program: nt.subject, nt.predicate; a scanner's world keeps what lies elsewhere. -/
import Derived.Test.YtbchkhjkajagfaaGreatDoorNtPlace
import Derived.Test.YtbchkhjkajagfaaGreatDoorNtMore
namespace Go.Proofs.YtbchkhjkajagfaaGreatDoor
open Go Go.RowKit
set_option linter.unusedVariables false
set_option linter.unusedSimpArgs false
set_option maxRecDepth 100000
def triC (t : Tri) : List Value := [tmV t.s, tmV t.p, tmV t.o]
def triV (t : Tri) : Value := .agg #[tmV t.s, tmV t.p, tmV t.o]
def subG (G : Tm → Bool) (x : Tm) : Bool := G x && decide (kindV x < 2)
def prdG (G : Tm → Bool) (x : Tm) : Bool := G x && decide (kindV x = 1)
set_option maxHeartbeats 800000 in
theorem subject_any {G : Tm → Bool} (hG : GoodFn G) {x : Tm} (hz : Small x) {w : World} (hm : MaxV w) : Calls Tryz.prog 36 #[tmV x] w fun e w' => e = .returned (.bool (subG G x)) ∧ Below w.heap.size w w' := by
  have HG := Lib.hid ((hG x hz).1 w hm)
  have HK := Lib.hid (fun w => kind_any x w)
  clear hm hG
  unfold subG
  generalize G x = g at *
  generalize kindV x = k at *
  generalize tmV x = X at *
  cases g with
  | false =>
    go_enter Tryz.func36, Tryz.ntmps36
    go_wp2_with fail
    refine HG.out.mono ?_
    rintro e w1 ⟨rfl, hb⟩
    go_wp2_with fail
    go_ret
    exact ⟨rfl, hb⟩
  | true =>
    go_enter Tryz.func36, Tryz.ntmps36
    go_wp2_with fail
    refine HG.out.mono ?_
    rintro e w1 ⟨rfl, hb⟩
    go_wp2_with fail
    refine (HK.out _).mono ?_
    rintro e w2 ⟨rfl, rfl⟩
    go_wp2_with fail
    go_ret
    exact ⟨by simp, hb⟩
set_option maxHeartbeats 800000 in
theorem predicate_any {G : Tm → Bool} (hG : GoodFn G) {x : Tm} (hz : Small x) {w : World} (hm : MaxV w) : Calls Tryz.prog 37 #[tmV x] w fun e w' => e = .returned (.bool (prdG G x)) ∧ Below w.heap.size w w' := by
  have HG := Lib.hid ((hG x hz).1 w hm)
  have HK := Lib.hid (fun w => kind_any x w)
  clear hm hG
  unfold prdG
  generalize G x = g at *
  generalize kindV x = k at *
  generalize tmV x = X at *
  cases g with
  | false =>
    go_enter Tryz.func37, Tryz.ntmps37
    go_wp2_with fail
    refine HG.out.mono ?_
    rintro e w1 ⟨rfl, hb⟩
    go_wp2_with fail
    go_ret
    exact ⟨rfl, hb⟩
  | true =>
    go_enter Tryz.func37, Tryz.ntmps37
    go_wp2_with fail
    refine HG.out.mono ?_
    rintro e w1 ⟨rfl, hb⟩
    go_wp2_with fail
    refine (HK.out _).mono ?_
    rintro e w2 ⟨rfl, rfl⟩
    go_wp2_with fail
    go_ret
    exact ⟨by simp [Bool.beq_eq_decide_eq], hb⟩
/-- what the readers ask of the world, and keep: the escapes' table, the library's length -/
def Env (X : Nat) (w : World) : Prop := Esc w ∧ 0 < X ∧ ∃ g : Nat, g = 1 ∧ g ≠ X ∧ g < w.heap.size ∧ MaxV w
theorem Env.sk {X : Nat} {w w' : World} (h : Env X w) (hk : SK X w w') : Env X w' := by
  obtain ⟨h1, h2, g, h3, h4, h5, m, h6⟩ := h
  refine ⟨h1.sk hk h2, h2, g, h3, h4, Nat.lt_of_lt_of_le h5 hk.1.size, m, ?_⟩
  subst h3
  exact (cell_same (hk.2 _ h5 h4)).trans h6
theorem Env.max {X : Nat} {w : World} (h : Env X w) : MaxV w := let ⟨_, _, _, _, _, _, h⟩ := h; h
theorem Env.of {X : Nat} {w w' : World} (he : Esc w) (hm : MaxV w) (hX : w.heap.size ≤ X) (hb : Below w.heap.size w w') : Env X w' := by
  obtain ⟨m, h⟩ := hm
  have hg : 1 < w.heap.size := block_lt_of_cell h
  exact ⟨he.below he.lt hb, Nat.lt_of_lt_of_le he.lt hX, _, rfl, by omega, Nat.lt_of_lt_of_le hg hb.size, m, cell_below h hb⟩
theorem lt_blk {w : World} {b : Nat} {o : Obj} (h : w.heap[b]? = some o) : b < w.heap.size := by
  rcases Nat.lt_or_ge b w.heap.size with h1 | h1
  · exact h1
  · rw [Array.getElem?_eq_none h1] at h; cases h
theorem set_at {w : World} {b i : Nat} {cs : Array Value} {T : TypeId} (h : w.heap[b]? = some (.cells cs T (0, 0))) (v : Value) : (w.setCell ⟨b, i, none⟩ v).heap[b]? = some (.cells (cs.setIfInBounds i v) T (0, 0)) := by
  have hlt := lt_blk h
  have h' : w.heap[b] = .cells cs T (0, 0) := by simpa [Array.getElem?_eq_getElem hlt] using h
  show (w.heap.modify b _)[b]? = _
  rw [Array.getElem?_eq_getElem (by simpa using hlt), Array.getElem_modify_self, h']
  rfl
theorem blk_new (w : World) (cs : Array Value) (T : TypeId) : (w.alloc (.cells cs T)).heap[w.heap.size]? = some (.cells cs T (0, 0)) := (MapKept.heap_alloc w _).1
theorem blk_below {w w' : World} {b : Nat} {o : Obj} (h : w.heap[b]? = some o) (hb : Below w.heap.size w w') : w'.heap[b]? = some o := (hb.block b (lt_blk h)).trans h
theorem blk_other {w : World} {b : Nat} {o : Obj} {a : Addr} {v : Value} (h : w.heap[b]? = some o) (hne : b ≠ a.block) : (w.setCell a v).heap[b]? = some o := (Below.heap_setCell w a v b hne).trans h
theorem blk3 {w : World} {p : Nat} {a b c : Value} {T : TypeId} (h1 : w.heap[p]? = some (.cells #[a, b, c] T (0, 0))) : w.cell? ⟨p, 0, none⟩ = some a ∧ w.cell? ⟨p, 1, none⟩ = some b ∧ w.cell? ⟨p, 2, none⟩ = some c ∧ (∀ j, w.frozen? ⟨p, j, none⟩ = false) :=
  ⟨by simp [World.cell?, h1], by simp [World.cell?, h1], by simp [World.cell?, h1], fun j => by simp [World.frozen?, h1]⟩
theorem key_iface {x : Tm} (h : KeyT x) : ∃ T Y, tmV x = .iface T Y := by
  cases x with
  | blank s => exact ⟨_, _, rfl⟩
  | iri s => exact ⟨_, _, rfl⟩
  | lit s t l => exact ⟨_, _, rfl⟩
  | odd n => exact h.elim
  | none => exact h.elim
/-- a store into a block of the call's own: the scanner stays -/
theorem Sn.set {l : List Int} {p X g cap : Nat} {w0 w : World} (h : Sn l p X g cap w0 w) {a : Addr} (ha : w0.heap.size ≤ a.block) (hX : X < w0.heap.size) (hg : g < w0.heap.size) (v : Value) : Sn l p X g cap w0 (w.setCell a v) := by
  obtain ⟨⟨h1, h2, h3, h4, h5, h6⟩, h7, h8⟩ := h
  refine ⟨⟨blk_other h1 (by omega), h2, fun j hj => (cell_same (Below.heap_setCell w a v g (by omega))).trans (h3 j hj), h4, h5, by simpa using h6⟩, ?_, fun k hk hne => (Below.heap_setCell w a v k (by omega)).trans (h8 k hk hne)⟩
  exact h7.setCell (by omega) v
end Go.Proofs.YtbchkhjkajagfaaGreatDoor
