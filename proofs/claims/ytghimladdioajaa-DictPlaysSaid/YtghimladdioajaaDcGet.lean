/- Contracts of package dict over this seat's program: New, Len, has, Term, Find: what only reads. -/
import Derived.Test.YtghimladdioajaaDcAt
import Derived.OneCell
import Derived.BigQuiet
import Derived.Carry
namespace Go.Proofs.Ytghimladdioajaa
open Go Go.RowKit
set_option linter.unusedVariables false
set_option linter.unusedSimpArgs false
/-- a dictionary: its struct p, its map m, its terms in order, its room -/
def DcAt (base p m : Nat) (ts : List Tm) (room : Int) (w : World) : Prop :=
  ∃ v es clock, w.heap[p]? = some (.cells #[v, .map (some m), .int .i64 room] 89 (0, 0)) ∧ w.heap[m]? = some (.map es clock) ∧ Ents es ts ∧ RowT w base v ts ∧ base ≤ p ∧ base ≤ m ∧ (∀ k ∈ ts, KeyT k) ∧ ts.length ≤ 65536
theorem lt_heap {w : World} {b : Nat} {o : Obj} (h : w.heap[b]? = some o) : b < w.heap.size := (Array.getElem?_eq_some_iff.1 h).1
theorem rowT_below {w w' : World} {base : Nat} {v : Value} {ts : List Tm} (h : RowT w base v ts) (hb : Below w.heap.size w w') : RowT w' base v ts := by
  rcases h with h | ⟨g, cap, cur, rfl, h1, hg, hr⟩
  · exact .inl h
  · exact .inr ⟨g, cap, cur, rfl, h1, (hb.block g (lt_heap hg)).trans hg, hr⟩
theorem DcAt.keep {base p m : Nat} {ts : List Tm} {room : Int} {w w' : World} (h : DcAt base p m ts room w) (hb : Below w.heap.size w w') : DcAt base p m ts room w' := by
  obtain ⟨v, es, clock, h1, h2, h3, h4, h5⟩ := h
  exact ⟨v, es, clock, (hb.block p (lt_heap h1)).trans h1, (hb.block m (lt_heap h2)).trans h2, h3, rowT_below h4 hb, h5⟩
theorem cells3 {w : World} {p : Nat} {a b c : Value} {T : TypeId} (h1 : w.heap[p]? = some (.cells #[a, b, c] T (0, 0))) : w.cell? ⟨p, 0, none⟩ = some a ∧ w.cell? ⟨p, 1, none⟩ = some b ∧ w.cell? ⟨p, 2, none⟩ = some c ∧ w.frozen? ⟨p, 0, none⟩ = false := by
  exact ⟨by simp [World.cell?, h1], by simp [World.cell?, h1], by simp [World.cell?, h1], by simp [World.frozen?, h1]⟩
theorem len_any {base p m : Nat} {ts : List Tm} {room : Int} {w : World} (h : DcAt base p m ts room w) : Calls Try.prog 16 #[.pointer (some ⟨p, 0, none⟩)] w fun e w' => e = .returned (.int .i64 ts.length) ∧ w = w' := by
  obtain ⟨v, es, clock, h1, h2, h3, h4, h5⟩ := h
  obtain ⟨a, cap, rfl⟩ := rowT_form h4
  obtain ⟨c0, c1, c2, f0⟩ := cells3 h1
  clear h1 h2 h3 h4 h5 c1 c2 f0
  go_enter Try.func16, Try.ntmps16
  go_wp2
  go_ret
  exact ⟨rfl, rfl⟩
theorem has_any {base p m : Nat} {ts : List Tm} {room : Int} {w : World} (n : Int) (h : DcAt base p m ts room w) : Calls Try.prog 38 #[.pointer (some ⟨p, 0, none⟩), .int .i64 n] w fun e w' => e = .returned (.bool (decide (0 ≤ n) && decide (n < ts.length))) ∧ w = w' := by
  obtain ⟨v, es, clock, h1, h2, h3, h4, h5⟩ := h
  obtain ⟨a, cap, rfl⟩ := rowT_form h4
  obtain ⟨c0, c1, c2, f0⟩ := cells3 h1
  clear h1 h2 h3 h4 h5 c1 c2 f0
  rcases Int.lt_or_le n 0 with hn | hn
  · have t1 : decide (n ≥ 0) = false := decide_eq_false (by omega)
    have t2 : decide (0 ≤ n) = false := decide_eq_false (by omega)
    rw [t2]
    go_enter Try.func38, Try.ntmps38
    go_wp2
    go_ret
    exact ⟨rfl, rfl⟩
  · have t1 : decide (n ≥ 0) = true := decide_eq_true (by omega)
    have t2 : decide (0 ≤ n) = true := decide_eq_true (by omega)
    rw [t2]
    go_enter Try.func38, Try.ntmps38
    go_wp2
    go_ret
    exact ⟨rfl, rfl⟩
theorem find_bad {base p m : Nat} {ts : List Tm} {room : Int} {w : World} (x : Tm) (h : DcAt base p m ts room w) (hg : Calls Try.prog 36 #[tmV x] w fun e w' => e = .returned (.bool false) ∧ Below w.heap.size w w') :
    Calls Try.prog 23 #[.pointer (some ⟨p, 0, none⟩), tmV x] w fun e w' => e = .returned (.tuple #[.int .i64 0, .int .i64 4]) ∧ Below w.heap.size w w' := by
  have HG := Lib.hid hg
  clear hg h
  generalize tmV x = X at *
  go_enter Try.func23, Try.ntmps23
  go_wp2_with fail
  refine HG.out.mono ?_
  rintro e w1 ⟨rfl, hb⟩
  go_wp2_with fail
  go_ret2
  exact ⟨rfl, hb⟩
def findV (x : Tm) (ts : List Tm) : Value := match idxT x ts with | some j => .tuple #[.int .i64 (j : Int), .int .i64 0] | none => .tuple #[.int .i64 0, .int .i64 4]
theorem find_good {base p m : Nat} {ts : List Tm} {room : Int} {w : World} (x : Tm) (hx : KeyT x) (h : DcAt base p m ts room w) (hg : Calls Try.prog 36 #[tmV x] w fun e w' => e = .returned (.bool true) ∧ Below w.heap.size w w') :
    Calls Try.prog 23 #[.pointer (some ⟨p, 0, none⟩), tmV x] w fun e w' => e = .returned (findV x ts) ∧ Below w.heap.size w w' := by
  have HG := Lib.hid hg
  have HD := Lib.hid h
  have HL := Lib.hid (fun w1 (hb : Below w.heap.size w w1) (es : Array MapEntry) (clock : Nat) (h2 : w1.heap[m]? = some (.map es clock)) (h3 : Ents es ts) (h7 : ∀ k ∈ ts, KeyT k) => lookup_run x hx w1 m es clock ts h2 h3 h7)
  unfold findV
  clear hg h hx
  generalize tmV x = X at *
  generalize idxT x ts = I at *
  go_enter Try.func23, Try.ntmps23
  go_wp2_with fail
  refine HG.out.mono ?_
  rintro e w1 ⟨rfl, hb⟩
  obtain ⟨v, es, clock, h1, h2, h3, h4, h5⟩ := HD.out.keep hb
  have hl := HL.out w1 hb es clock h2 h3 h5.2.2.1
  obtain ⟨c0, c1, c2, f0⟩ := cells3 h1
  clear h1 h2 h3 h4 h5 c0 c2 f0
  cases I with
  | none =>
    simp only [Option.map_none, Option.getD_none, Option.isSome_none] at hl
    go_wp2_with fail
    go_ret2
    exact ⟨rfl, hb⟩
  | some j =>
    simp only [Option.map_some, Option.getD_some, Option.isSome_some] at hl
    go_wp2_with fail
    go_ret2
    exact ⟨rfl, hb⟩
theorem new_no (room : Int) (w : World) (hr : room < 1 ∨ 65536 < room) : Calls Try.prog 9 #[.int .i64 room] w fun e w' => e = .returned (.tuple #[.pointer none, .int .i64 2]) ∧ w = w' := by
  rcases hr with hr | hr
  · have t1 : decide (room < 1) = true := decide_eq_true hr
    go_enter Try.func9, Try.ntmps9
    go_wp2
    go_ret2
    exact ⟨rfl, rfl⟩
  · have t1 : decide (room < 1) = false := decide_eq_false (by omega)
    have t2 : decide (room > 65536) = true := decide_eq_true hr
    go_enter Try.func9, Try.ntmps9
    go_wp2
    go_ret2
    exact ⟨rfl, rfl⟩
theorem new_yes (room : Int) (w : World) (hr : 1 ≤ room ∧ room ≤ 65536) (base : Nat) (hb : base ≤ w.heap.size) : Calls Try.prog 9 #[.int .i64 room] w fun e w' => ∃ p m, e = .returned (.tuple #[.pointer (some ⟨p, 0, none⟩), .int .i64 0]) ∧ DcAt base p m [] room w' ∧ Below w.heap.size w w' ∧ w.heap.size ≤ p ∧ w.heap.size ≤ m := by
  have t1 : decide (room < 1) = false := decide_eq_false (by omega)
  have t2 : decide (room > 65536) = false := decide_eq_false (by omega)
  have hmk := run_makeMap (P := Try.prog) 86 w
  go_enter Try.func9, Try.ntmps9
  go_wp2
  go_ret2
  refine ⟨w.heap.size + 1, w.heap.size, rfl, ⟨.slice none 0 0, #[], 0, ?_, ?_, ⟨rfl, fun i hi => by simp at hi⟩, .inl ⟨rfl, rfl⟩, by omega, hb, fun k hk => by simp at hk, by simp⟩, ?_, by omega, Nat.le_refl _⟩
  · have h := MapKept.heap_alloc (w.alloc (.map #[] 0)) (.cells #[.slice none 0 0, .map (some w.heap.size), .int .i64 room] 89)
    have hs : (w.alloc (.map #[] 0)).heap.size = w.heap.size + 1 := by simp
    rw [hs] at h
    exact h.1
  · rw [Below.heap_alloc _ _ _ (by simp)]
    exact (MapKept.heap_alloc w (.map #[] 0)).1
  · exact ((Below.refl w.heap.size w).alloc (Nat.le_refl _) _).alloc (by simp) _
theorem term_no {base p m : Nat} {ts : List Tm} {room : Int} {w : World} (n : Int) (hn : n < 0 ∨ (ts.length : Int) ≤ n) (h : DcAt base p m ts room w) : Calls Try.prog 26 #[.pointer (some ⟨p, 0, none⟩), .int .i64 n] w fun e w' => e = .returned (.tuple #[.nilIface, .int .i64 4]) ∧ w = w' := by
  have HH := has_any n h
  rw [show (decide (0 ≤ n) && decide (n < ts.length)) = false by simp; omega] at HH
  have HX := Lib.hid HH
  clear HH h
  go_enter Try.func26, Try.ntmps26
  go_wp2_with fail
  refine HX.out.mono ?_
  rintro e w1 ⟨rfl, rfl⟩
  go_wp2_with fail
  go_ret2
  exact ⟨rfl, rfl⟩
theorem row_cell {w : World} {base : Nat} {v : Value} {ts : List Tm} (h : RowT w base v ts) (j : Nat) (hj : j < ts.length) : ∃ g cap, v = .slice (some ⟨g, 0, none⟩) ts.length cap ∧ w.cell? ⟨g, j, none⟩ = some (tmV (ts[j]'hj)) := by
  rcases h with ⟨rfl, rfl⟩ | ⟨g, cap, cur, rfl, h1, hg, h2, h3, h4, h5⟩
  · simp at hj
  · refine ⟨g, cap, rfl, ?_⟩
    rw [cell_of_row w g j cur _ (0, 0) hg]
    have : (cur.toList.take ts.length)[j]? = some (tmV (ts[j]'hj)) := by rw [h5, List.getElem?_map, List.getElem?_eq_getElem hj]; rfl
    rw [List.getElem?_take, if_pos hj] at this
    simpa using this
theorem term_yes {base p m : Nat} {ts : List Tm} {room : Int} {w : World} (j : Nat) (hj : j < ts.length) (h : DcAt base p m ts room w) : Calls Try.prog 26 #[.pointer (some ⟨p, 0, none⟩), .int .i64 j] w fun e w' => e = .returned (.tuple #[tmV (ts[j]'hj), .int .i64 0]) ∧ Below w.heap.size w w' := by
  have HH := has_any (j : Int) h
  rw [show (decide (0 ≤ (j : Int)) && decide ((j : Int) < ts.length)) = true by simp; omega] at HH
  have HX := Lib.hid HH
  obtain ⟨v, es, clock, h1, h2, h3, h4, h5⟩ := h
  obtain ⟨g, cap, rfl, c9⟩ := row_cell h4 j hj
  obtain ⟨c0, c1, c2, f0⟩ := cells3 h1
  have b1 : (0 : Int) ≤ (j : Int) := by omega
  have b2 : (j : Int) < (ts.length : Int) := by omega
  generalize tmV (ts[j]'hj) = X at *
  clear HH h1 h2 h3 h4 h5 c1 c2 f0
  go_enter Try.func26, Try.ntmps26
  go_wp2_with fail
  refine HX.out.mono ?_
  rintro e w1 ⟨rfl, rfl⟩
  go_wp2_with fail
  go_ret2
  exact ⟨rfl, Below.refl _ _⟩
end Go.Proofs.Ytghimladdioajaa
