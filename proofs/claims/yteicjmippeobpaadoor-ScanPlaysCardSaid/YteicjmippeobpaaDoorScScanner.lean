/- Contracts of package scan's Scanner over this seat's program: New, Place, End, Peek, Next, Back. -/
import Derived.Test.YteicjmippeobpaaDoorScUnlike
import Derived.Deep.QuietTactic
import Derived.BigQuiet
import Derived.Laws.IdiomStrings
import Derived.OneCell
namespace Go.Proofs.YteicjmippeobpaaDoor
open Go Go.RowKit
set_option linter.unusedVariables false
/-- a scanner: its block X, the row g of its signs, its place -/
def ScW (l : List Int) (p X g cap : Nat) (w : World) : Prop :=
  w.heap[X]? = some (.cells #[.slice (some ⟨g, 0, none⟩) l.length cap, .int .i64 p] 73 (0, 0)) ∧ g ≠ X ∧ (∀ j (h : j < l.length), w.cell? ⟨g, j, none⟩ = some (.int .i32 (l[j]'h))) ∧ l.length ≤ cap ∧ p ≤ l.length ∧ g < w.heap.size
/-- what a scanner's own methods may turn: its block alone -/
def SK (X : Nat) (w w' : World) : Prop := Below X w w' ∧ ∀ k, k < w.heap.size → k ≠ X → w'.heap[k]? = w.heap[k]?
theorem SK.refl (X : Nat) (w : World) : SK X w w := ⟨Below.refl _ _, fun _ _ _ => rfl⟩
theorem SK.trans {X : Nat} {w w1 w2 : World} (h : SK X w w1) (h' : SK X w1 w2) : SK X w w2 :=
  ⟨h.1.trans h'.1, fun k h1 h2 => (h'.2 k (Nat.lt_of_lt_of_le h1 h.1.size) h2).trans (h.2 k h1 h2)⟩
theorem SK.below {X : Nat} {w w1 : World} (h : Below w.heap.size w w1) (hX : X ≤ w.heap.size) : SK X w w1 := ⟨h.mono hX, fun k h1 _ => h.block k h1⟩
theorem SK.set {X : Nat} (w : World) (o : Nat) (v : Value) : SK X w (w.setCell ⟨X, o, none⟩ v) :=
  ⟨(Below.refl X w).setCell (p := ⟨X, o, none⟩) (Nat.le_refl _) v, fun k _ h2 => Below.heap_setCell w ⟨X, o, none⟩ v k h2⟩
theorem ScW.lt {l : List Int} {p X g cap : Nat} {w : World} (h : ScW l p X g cap w) : X < w.heap.size := lt_of_block h.1
theorem cell_same {w w' : World} {b o : Nat} (h : w'.heap[b]? = w.heap[b]?) : w'.cell? ⟨b, o, none⟩ = w.cell? ⟨b, o, none⟩ := World.cell?_of_block (w := w) h
theorem ScW.keep {l : List Int} {p X g cap : Nat} {w w' : World} (h : ScW l p X g cap w) (hb : Below w.heap.size w w') : ScW l p X g cap w' := by
  obtain ⟨h1, h2, h3, h4, h5, h6⟩ := h
  exact ⟨(hb.block X (lt_of_block h1)).trans h1, h2, fun j hj => (cell_same (hb.block g h6)).trans (h3 j hj), h4, h5, Nat.lt_of_lt_of_le h6 hb.size⟩
/-- the place, stored anew -/
theorem ScW.put {l : List Int} {p X g cap : Nat} {w : World} (h : ScW l p X g cap w) (q : Nat) (hq : q ≤ l.length) : ScW l q X g cap (w.setCell ⟨X, 1, none⟩ (.int .i64 q)) := by
  obtain ⟨h1, h2, h3, h4, h5, h6⟩ := h
  refine ⟨?_, h2, fun j hj => (cell_same (Below.heap_setCell w ⟨X, 1, none⟩ _ g h2)).trans (h3 j hj), h4, hq, by simpa using h6⟩
  have hlt := lt_of_block h1
  have h' : w.heap[X] = .cells #[.slice (some ⟨g, 0, none⟩) l.length cap, .int .i64 p] 73 (0, 0) := by simpa [Array.getElem?_eq_getElem hlt] using h1
  show (w.heap.modify X _)[X]? = _
  rw [Array.getElem?_eq_getElem (by simpa using hlt), Array.getElem_modify_self, h']
  rfl
theorem ScW.cells {l : List Int} {p X g cap : Nat} {w : World} (h : ScW l p X g cap w) : w.cell? ⟨X, 0, none⟩ = some (.slice (some ⟨g, 0, none⟩) l.length cap) ∧ w.cell? ⟨X, 1, none⟩ = some (.int .i64 p) ∧ w.frozen? ⟨X, 1, none⟩ = false := by
  have h1 := h.1
  exact ⟨by simp [World.cell?, h1], by simp [World.cell?, h1], by simp [World.frozen?, h1]⟩
theorem place_any (l : List Int) (p X g cap : Nat) (w : World) (h : ScW l p X g cap w) : Calls Tryd.prog 24 #[.pointer (some ⟨X, 0, none⟩)] w fun e w' => e = .returned (.int .i64 p) ∧ w = w' := by
  obtain ⟨c0, c1, f1⟩ := h.cells
  clear h c0 f1
  go_enter Tryd.func24, Tryd.ntmps24
  go_wp2
  go_ret
  exact ⟨rfl, rfl⟩
theorem end_no (l : List Int) (p X g cap : Nat) (w : World) (h : ScW l p X g cap w) (hp : p < l.length) : Calls Tryd.prog 23 #[.pointer (some ⟨X, 0, none⟩)] w fun e w' => e = .returned (.bool false) ∧ Below w.heap.size w w' := by
  obtain ⟨c0, c1, f1⟩ := h.cells
  have ht : ((p : Int) == (l.length : Int)) = false := beq_eq_false_iff_ne.mpr (by omega)
  clear h f1
  go_enter Tryd.func23, Tryd.ntmps23
  go_wp2_with fail
  go_quiet (fail)
  go_wp2_with fail
  go_ret
  exact ⟨rfl, below_drewN (Below.refl _ _) _⟩
theorem end_yes (l : List Int) (p X g cap : Nat) (w : World) (h : ScW l p X g cap w) (hp : p = l.length) : Calls Tryd.prog 23 #[.pointer (some ⟨X, 0, none⟩)] w fun e w' => e = .returned (.bool true) ∧ Below w.heap.size w w' := by
  obtain ⟨c0, c1, f1⟩ := h.cells
  subst hp
  clear h f1
  go_enter Tryd.func23, Tryd.ntmps23
  go_wp2_with fail
  go_quiet (fail)
  go_wp2_with fail
  go_ret
  exact ⟨ret_bool (by simp), below_drewN (Below.refl _ _) _⟩
theorem peek_no (l : List Int) (p X g cap : Nat) (w : World) (h : ScW l p X g cap w) (hp : p = l.length) : Calls Tryd.prog 25 #[.pointer (some ⟨X, 0, none⟩)] w fun e w' => e = .returned (.int .i32 (-1)) ∧ Below w.heap.size w w' := by
  have HE := Lib.hid (end_yes l p X g cap w h hp)
  clear h hp
  go_enter Tryd.func25, Tryd.ntmps25
  go_wp2_with fail
  refine HE.out.mono ?_
  rintro e w1 ⟨rfl, hb⟩
  go_wp2_with fail
  go_ret
  exact ⟨rfl, hb⟩
theorem peek_yes (l : List Int) (p X g cap : Nat) (w : World) (h : ScW l p X g cap w) (hp : p < l.length) (hl : l.length ≤ 9223372036854775807) : Calls Tryd.prog 25 #[.pointer (some ⟨X, 0, none⟩)] w fun e w' => e = .returned (.int .i32 (l[p]'hp)) ∧ Below w.heap.size w w' := by
  have HE := Lib.hid (end_no l p X g cap w h hp)
  have HS := Lib.hid h
  obtain ⟨n, hn⟩ : ∃ n, n = l[p]'hp := ⟨_, rfl⟩
  rw [← hn]
  have HNN := Lib.hid hn
  clear h hn
  go_enter Tryd.func25, Tryd.ntmps25
  go_wp2_with fail
  refine HE.out.mono ?_
  rintro e w1 ⟨rfl, hb⟩
  have hs1 := HS.out.keep hb
  obtain ⟨c0, c1, f1⟩ := hs1.cells
  have c2 := hs1.2.2.1 p hp
  have b1 : (0 : Int) ≤ (p : Int) := by omega
  have b2 : (p : Int) < (l.length : Int) := by omega
  rw [← HNN.out] at c2
  clear hs1 f1
  go_wp2_with fail
  go_quiet (fail)
  go_wp2_with fail
  go_ret
  exact ⟨rfl, below_drewN hb _⟩
def Moved (l : List Int) (q X g cap : Nat) (v : Value) (w : World) (e : Ending) (w' : World) : Prop := e = .returned v ∧ ScW l q X g cap w' ∧ SK X w w'
theorem next_yes (l : List Int) (p X g cap : Nat) (w : World) (h : ScW l p X g cap w) (hp : p < l.length) (hl : l.length ≤ 1000000000) (hn : SignP (l[p]'hp)) : Calls Tryd.prog 26 #[.pointer (some ⟨X, 0, none⟩)] w (Moved l (p + 1) X g cap (.int .i32 (l[p]'hp)) w) := by
  have HP := Lib.hid (peek_yes l p X g cap w h hp (by omega))
  have HS := Lib.hid h
  have hX := h.lt
  have ht : ((l[p]'hp) != -1) = true := bne_iff_ne.mpr (by unfold SignP at hn; omega)
  clear h hn
  generalize l[p] = n at HP ht ⊢
  go_enter Tryd.func26, Tryd.ntmps26
  go_wp2_with fail
  refine HP.out.mono ?_
  rintro e w1 ⟨rfl, hb⟩
  have hs1 := HS.out.keep hb
  obtain ⟨c0, c1, f1⟩ := hs1.cells
  have HS1 := Lib.hid hs1
  have HB := Lib.hid hb
  clear hs1 hb c0
  go_wp2_with fail
  go_ret
  have e1 : ((p : Int) + 1) = ((p + 1 : Nat) : Int) := by omega
  rw [e1]
  exact ⟨rfl, HS1.out.put (p + 1) (by omega), (SK.below HB.out (by omega)).trans (SK.set _ _ _)⟩
theorem next_no (l : List Int) (p X g cap : Nat) (w : World) (h : ScW l p X g cap w) (hp : p = l.length) : Calls Tryd.prog 26 #[.pointer (some ⟨X, 0, none⟩)] w (Moved l p X g cap (.int .i32 (-1)) w) := by
  have HP := Lib.hid (peek_no l p X g cap w h hp)
  have HS := Lib.hid h
  have hX := h.lt
  clear h hp
  go_enter Tryd.func26, Tryd.ntmps26
  go_wp2_with fail
  refine HP.out.mono ?_
  rintro e w1 ⟨rfl, hb⟩
  have HS1 := Lib.hid (HS.out.keep hb)
  have HB := Lib.hid hb
  clear hb
  go_wp2_with fail
  go_ret
  exact ⟨rfl, HS1.out, SK.below HB.out (by omega)⟩
theorem back_yes (l : List Int) (p q X g cap : Nat) (w : World) (h : ScW l p X g cap w) (hq : q ≤ l.length) : Calls Tryd.prog 28 #[.pointer (some ⟨X, 0, none⟩), .int .i64 q] w (Moved l q X g cap (.bool true) w) := by
  have HS := Lib.hid h
  obtain ⟨c0, c1, f1⟩ := h.cells
  have b1 : (q : Int) ≤ (l.length : Int) := by omega
  clear h
  go_enter Tryd.func28, Tryd.ntmps28
  go_wp2_with fail
  go_ret
  exact ⟨rfl, HS.out.put q hq, SK.set _ _ _⟩
theorem back_no (l : List Int) (p X g cap : Nat) (n : Int) (w : World) (h : ScW l p X g cap w) (hq : n < 0 ∨ (l.length : Int) < n) : Calls Tryd.prog 28 #[.pointer (some ⟨X, 0, none⟩), .int .i64 n] w (Moved l p X g cap (.bool false) w) := by
  have HS := Lib.hid h
  obtain ⟨c0, c1, f1⟩ := h.cells
  clear h
  rcases hq with hq | hq
  · go_enter Tryd.func28, Tryd.ntmps28
    go_wp2_with fail
    go_ret
    exact ⟨rfl, HS.out, SK.refl _ _⟩
  · have b1 : (0 : Int) ≤ n := by omega
    go_enter Tryd.func28, Tryd.ntmps28
    go_wp2_with fail
    go_ret
    exact ⟨rfl, HS.out, SK.refl _ _⟩
end Go.Proofs.YteicjmippeobpaaDoor
