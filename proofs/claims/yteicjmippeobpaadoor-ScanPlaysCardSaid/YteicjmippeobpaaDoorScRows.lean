/- Rows of signs; all signs from a place on; a part of a row. -/
import Derived.Test.YteicjmippeobpaaDoorScText
import Derived.Test.YteicjmippeobpaaDoorScTexts
import Derived.Deep.RegionHeld3
namespace Go.Proofs.YteicjmippeobpaaDoor
open Go Go.RowKit
set_option linter.unusedVariables false
theorem class_six {n : Int} (h : SignP n) : ([0, 1, 2, 3, 4, 5] : List Int).contains (classV n) = true := by
  have hv : classV n = 0 ∨ classV n = 1 ∨ classV n = 2 ∨ classV n = 3 ∨ classV n = 4 ∨ classV n = 5 := by
    unfold classV
    rw [if_neg (by simpa using h)]
    (repeat' split) <;> omega
  rcases hv with h | h | h | h | h | h
  all_goals rw [h]; decide
theorem tw_six (l : List Int) (hl : ∀ n ∈ l, SignP n) : tw [0, 1, 2, 3, 4, 5] l = l.length := by
  induction l with
  | nil => rfl
  | cons n t ih =>
    unfold tw
    rw [if_pos (class_six (hl n List.mem_cons_self)), ih (fun x hx => hl x (List.mem_cons_of_mem _ hx))]
    rfl
def sixV : Array Value := #[.int .i64 0, .int .i64 1, .int .i64 2, .int .i64 3, .int .i64 4, .int .i64 5]
theorem cls_six {w : World} {b X : Nat} (h : w.heap[b]? = some (.cells sixV 3 (0, 0))) (hb : b ≠ X) : ClsAt [0, 1, 2, 3, 4, 5] (some ⟨b, 0, none⟩) 6 X w := by
  refine ⟨rfl, .inr ⟨b, 0, rfl, hb, lt_of_block h, fun j hj => ?_⟩⟩
  rw [Lib.cell_of_heap h]
  have hj6 : j < 6 := hj
  rcases (by omega : j = 0 ∨ j = 1 ∨ j = 2 ∨ j = 3 ∨ j = 4 ∨ j = 5) with rfl | rfl | rfl | rfl | rfl | rfl
  all_goals rfl
theorem run_six (l : List Int) (p X g cap b : Nat) (w : World) (h : ScW l p X g cap w) (hl : ∀ n ∈ l, SignP n) (hb : l.length ≤ 1000000) (hc : w.heap[b]? = some (.cells sixV 3 (0, 0))) (hbX : b ≠ X) :
    Calls Tryd.prog 27 #[.pointer (some ⟨X, 0, none⟩), .slice (some ⟨b, 0, none⟩) 6 6] w (Moved l l.length X g cap (.string (tBytes (l.drop p))) w) := by
  have hr := run_any [0, 1, 2, 3, 4, 5] l p X g cap (some ⟨b, 0, none⟩) 6 6 w h hl hb (cls_six hc hbX) (by omega)
  have e1 : runN [0, 1, 2, 3, 4, 5] l p = l.length - p := by
    unfold runN
    rw [tw_six _ (fun n hn => hl n (List.mem_of_mem_drop hn)), List.length_drop]
  have e2 : runT [0, 1, 2, 3, 4, 5] l p = tBytes (l.drop p) := by
    unfold runT tBytes
    rw [e1, List.take_of_length_le (by rw [List.length_drop]; exact Nat.le_refl _)]
  have e3 : p + runN [0, 1, 2, 3, 4, 5] l p = l.length := by have := h.2.2.2.2.1; omega
  rw [e3, e2] at hr
  exact hr
/-- the row of the signs: nil where there is none -/
def SgRow (l : List Int) (a : Option Addr) (c : Nat) (w : World) : Prop := (l = [] ∧ a = none ∧ c = 0) ∨ ∃ g, a = some ⟨g, 0, none⟩ ∧ RowI l g w ∧ l.length ≤ c
theorem SgRow.below {l : List Int} {a : Option Addr} {c : Nat} {w w' : World} (h : SgRow l a c w) (hb : Below w.heap.size w w') : SgRow l a c w' := by
  rcases h with h | ⟨g, h1, h2, h3⟩
  · exact .inl h
  · exact .inr ⟨g, h1, h2.below hb, h3⟩
/-- .. and where it lies: below the scanner -/
def SgAt (l : List Int) (a : Option Addr) (c X : Nat) (w : World) : Prop := (l = [] ∧ a = none ∧ c = 0) ∨ ∃ g, a = some ⟨g, 0, none⟩ ∧ RowI l g w ∧ l.length ≤ c ∧ g < X
theorem SgAt.of {l : List Int} {a : Option Addr} {c X : Nat} {w w' : World} (h : SgRow l a c w) (hb : Below w.heap.size w w') (hX : w.heap.size ≤ X) : SgAt l a c X w' := by
  rcases h with h | ⟨g, h1, h2, h3⟩
  · exact .inl h
  · exact .inr ⟨g, h1, h2.below hb, h3, by have := h2.2; omega⟩
theorem SgAt.sk {l : List Int} {a : Option Addr} {c X : Nat} {w w' : World} (h : SgAt l a c X w) (hb : SK X w w') : SgAt l a c X w' := by
  rcases h with h | ⟨g, h1, h2, h3, h4⟩
  · exact .inl h
  · exact .inr ⟨g, h1, h2.sk hb (by omega), h3, h4⟩
theorem SgAt.below {l : List Int} {a : Option Addr} {c X : Nat} {w w' : World} (h : SgAt l a c X w) (hb : Below w.heap.size w w') : SgAt l a c X w' := by
  rcases h with h | ⟨g, h1, h2, h3, h4⟩
  · exact .inl h
  · exact .inr ⟨g, h1, h2.below hb, h3, h4⟩
def SignsRes2 (l : List Int) (w : World) (e : Ending) (w' : World) : Prop := ∃ a cap, e = .returned (.tuple #[.slice a l.length cap, .bool true]) ∧ SgRow l a cap w' ∧ Below w.heap.size w w'
theorem own_len {w : World} {base : Nat} {T : TypeId} {a : Option Addr} {n cap : Nat} {xs : List Value} (h : w.ownsRow base T 1 (.slice a n cap) n xs) (hn : 0 < n) : n ≤ cap := by
  rcases h.2 with ⟨h1, _⟩ | ⟨g, c, cur, h1, _, _, hnc, _⟩
  · injection h1 with _ h _; omega
  · injection h1 with _ _ h; omega
theorem signs_row (s : ByteArray) (l : List Int) (w : World) (h : Read s.data.toList l []) (hs : s.size ≤ 1048576) : Calls Tryd.prog 14 #[.string s] w (SignsRes2 l w) := by
  rcases Nat.eq_zero_or_pos l.length with h0 | h0
  · obtain rfl : l = [] := List.eq_nil_of_length_eq_zero h0
    have hz : s.size = 0 := by have := h.1; have e : s.data.toList.length = s.size := rfl; rw [this] at e; simpa [textB] using e.symm
    clear h h0 hs
    have hz1 : (s.size : Int) ≤ 0 := by omega
    clear hz
    go_enter Tryd.func14, Tryd.ntmps14
    go_wp2_with fail
    refine wp_loop_rounds 1 ?_
    rw [rounds_succ]
    go_wp2_with fail
    go_ret2
    exact ⟨none, 0, rfl, .inl ⟨rfl, rfl, rfl⟩, Below.refl _ _⟩
  · refine (signs_any s l [] w h hs).mono ?_
    rintro e w' ⟨a, cap, rfl, ho, hb⟩
    obtain ⟨g, rfl, hR⟩ := row_of ho h0
    exact ⟨_, cap, rfl, .inr ⟨g, rfl, hR, own_len ho h0⟩, hb⟩
theorem slice_ints (l : List Int) (a : Option Addr) (c X p : Nat) (w0 : World) (h : SgAt l a c X w0) (hp : p ≤ l.length) :
    ∃ a' c', (∀ w : World, (Instr.slice 23 (.slice a l.length c) (some (.int .i64 p)) none none).run Tryd.prog w = .ok (.slice a' (l.length - p) c') w) ∧ ∀ w, SgAt l a c X w → ClsAt (l.drop p) a' (l.length - p) X w := by
  rcases h with ⟨rfl, rfl, rfl⟩ | ⟨g, rfl, hR, hc, hg⟩
  · obtain rfl : p = 0 := by simpa using hp
    refine ⟨none, 0, fun w => ?_, fun w _ => ⟨by simp, .inl (by simp)⟩⟩
    go_simp
  · refine ⟨some (partA g c p), c - p, fun w => ?_, fun w hw => ⟨by rw [List.length_drop], ?_⟩⟩
    · rw [← partA_some]
      go_simp
    · by_cases hpl : p = l.length
      · exact .inl (by omega)
      · refine .inr ⟨g, p, ?_, by omega, ?_, fun j hj => ?_⟩
        · unfold partA; rw [if_neg (by omega)]
        · rcases hw with ⟨_, h2, _⟩ | ⟨g', h1, h2, _⟩
          · cases h2
          · injection h1 with h1; injection h1 with h1; subst h1; exact h2.2
        · rcases hw with ⟨_, h2, _⟩ | ⟨g', h1, h2, _⟩
          · cases h2
          · injection h1 with h1; injection h1 with h1; subst h1
            rw [List.length_drop] at hj
            rw [h2.1 (p + j) (by omega), List.getD_eq_getElem?_getD, List.getElem?_drop, List.getElem?_eq_getElem (by omega)]
            rfl
end Go.Proofs.YteicjmippeobpaaDoor
