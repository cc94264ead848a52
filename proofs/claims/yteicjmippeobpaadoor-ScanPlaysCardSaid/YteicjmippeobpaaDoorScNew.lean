/- The contract of package scan's New over this seat's program. -/
import Derived.Test.YteicjmippeobpaaDoorScScanner
namespace Go.Proofs.YteicjmippeobpaaDoor
open Go Go.RowKit
def runesV (l : List Int) : List Value := l.map (Value.int .i32)
theorem runes_from {s : ByteArray} {l : List Int} (h : Read s.data.toList l []) : ∀ (m k q bound : Nat) (acc : Array Value), l.length - k ≤ m → k ≤ l.length → q = (textB (l.take k)).length → s.size - q ≤ bound → Conv.runesFrom s bound q acc = acc ++ (runesV (l.drop k)).toArray := by
  have hs : s.data.toList.length = s.size := rfl
  have hz : s.data.toList.length = (textB l).length := by rw [h.1, List.append_nil]
  intro m
  induction m with
  | zero =>
    intro k q bound acc h1 h2 h3 h4
    have hk : k = l.length := by omega
    have hq : q = (textB l).length := by rw [h3, hk, List.take_length]
    have e : Conv.runesFrom s bound q acc = acc := by
      cases bound with
      | zero => rfl
      | succ b => unfold Conv.runesFrom; rw [if_neg (by omega)]
    rw [e, hk, List.drop_length]
    simp [runesV]
  | succ m ih =>
    intro k q bound acc h1 h2 h3 h4
    by_cases hk : k < l.length
    · have hlt := (read_here h hk).2.2
      rw [← h3] at hlt
      have hd := decode_here h hk h3
      have hn := (read_here h hk).1
      have hp := (enc_pos (l[k]'hk)).1
      obtain ⟨b, rfl⟩ : ∃ b, bound = b + 1 := ⟨bound - 1, by omega⟩
      unfold Conv.runesFrom
      rw [if_pos (by omega), hd]
      have := ih (k + 1) (q + (enc (l[k]'hk)).length) b (acc.push (.int .i32 (Int.ofNat (l[k]'hk).toNat))) (by omega) (by omega) (by rw [read_next h hk, ← h3]) (by omega)
      simp only at this ⊢
      have e2 : (Int.ofNat (l[k]'hk).toNat) = l[k]'hk := by unfold SignP at hn; show (((l[k]'hk).toNat : Nat) : Int) = _; omega
      have e3 : runesV (l.drop k) = .int .i32 (l[k]'hk) :: runesV (l.drop (k + 1)) := by rw [List.drop_eq_getElem_cons hk]; rfl
      rw [this, e2, e3]
      simp
    · have hk : k = l.length := by omega
      have hq : q = (textB l).length := by rw [h3, hk, List.take_length]
      have e : Conv.runesFrom s bound q acc = acc := by
        cases bound with
        | zero => rfl
        | succ b => unfold Conv.runesFrom; rw [if_neg (by omega)]
      rw [e, hk, List.drop_length]
      simp [runesV]
theorem runes_all {s : ByteArray} {l : List Int} (h : Read s.data.toList l []) : Conv.runesFrom s s.size 0 #[] = (runesV l).toArray := by
  have := runes_from h l.length 0 0 s.size #[] (by omega) (by omega) rfl (by omega)
  rw [this]; simp
theorem drew_heap (w : World) : w.drew.heap = w.heap := rfl
theorem drew_cell (w : World) (a : Addr) : w.drew.cell? a = w.cell? a := rfl
theorem new_world (l : List Int) (w : World) (c : Nat) (A : Array Value) (hA : ∀ j (h : j < l.length), A[j]? = some (.int .i32 (l[j]'h))) (hc : l.length ≤ c) :
    ScW l 0 (w.heap.size + 1) w.heap.size c (((w.alloc (.cells A 21)).alloc (.cells #[.slice (some ⟨w.heap.size, 0, none⟩) l.length c, .int .i64 0] 73)).drew) := by
  have hg : (w.alloc (.cells A 21)).heap[w.heap.size]? = some (.cells A 21) := heap_alloc_new _ _
  have hz : (w.alloc (.cells A 21)).heap.size = w.heap.size + 1 := by simp
  generalize w.alloc (.cells A 21) = w1 at hg hz
  have hx := heap_alloc_new w1 (.cells #[.slice (some ⟨w.heap.size, 0, none⟩) l.length c, .int .i64 0] 73)
  have hg2 := (Below.heap_alloc w1 (.cells #[.slice (some ⟨w.heap.size, 0, none⟩) l.length c, .int .i64 0] 73) w.heap.size (by omega)).trans hg
  have hz2 : (w1.alloc (.cells #[.slice (some ⟨w.heap.size, 0, none⟩) l.length c, .int .i64 0] 73)).heap.size = w.heap.size + 2 := by simp; omega
  generalize w1.alloc (.cells #[.slice (some ⟨w.heap.size, 0, none⟩) l.length c, .int .i64 0] 73) = w2 at hx hg2 hz2
  rw [hz] at hx
  refine ⟨by rw [drew_heap]; exact hx, by omega, fun j hj => ?_, hc, by omega, by rw [drew_heap]; omega⟩
  rw [drew_cell, Lib.cell_of_heap hg2]
  exact hA j hj
theorem runes_at (l : List Int) (B : Array Value) : ∀ j (h : j < l.length), ((runesV l).toArray ++ B)[j]? = some (.int .i32 (l[j]'h)) := by
  intro j hj
  have hjl : j < (runesV l).toArray.size := by simp [runesV]; omega
  rw [Array.getElem?_append_left hjl]
  simp [runesV, hj]
def NewRes (l : List Int) (w : World) (e : Ending) (w' : World) : Prop :=
  ∃ X g cap, e = .returned (.tuple #[.pointer (some ⟨X, 0, none⟩), .int .i64 0, .int .i64 0]) ∧ ScW l 0 X g cap w' ∧ w.heap.size ≤ X ∧ w.heap.size ≤ g ∧ Below w.heap.size w w'
set_option maxHeartbeats 800000 in
theorem new_ok (s : ByteArray) (l : List Int) (w : World) (h : Read s.data.toList l []) (hs : s.size ≤ 1048576) : Calls Tryd.prog 22 #[.string s] w (NewRes l w) := by
  have HW := Lib.hid (wrong_any s l [] w h hs (-1) (by rw [if_pos rfl]))
  have hll : l.length ≤ s.size := read_len h
  have hra := runes_all h
  have hcv : ∀ w : World, (convert 9 71 (.string s)).run Tryd.prog w = .ok (.slice (some ⟨w.heap.size, 0, none⟩) l.length (grownCap w l.length 0 21)) (w.drew.alloc (.cells ((runesV l).toArray ++ Array.replicate (grownCap w l.length 0 21 - l.length) (.int .i32 0)) 21)) := by
    intro w
    have := run_runes_of_string (P := Tryd.prog) w 9 71 21 s Tryd.underlying9 Tryd.underlying71 Tryd.underlying21 (by rw [hra]; simp [runesV]; omega)
    rw [hra] at this
    simpa [runesV] using this
  clear h hra
  go_enter Tryd.func22, Tryd.ntmps22
  go_wp2_with fail
  refine HW.out.mono ?_
  rintro e w1 ⟨rfl, hb⟩
  go_wp2_with fail
  go_ret3
  exact ⟨_, _, _, rfl, new_world l w1 _ _ (runes_at l _) (by have := grownCap_ge w1 l.length 0 21; omega), Nat.le_trans hb.size (by omega), hb.size, ((hb.alloc hb.size _).alloc (Nat.le_trans hb.size (by simp)) _).drew⟩
theorem new_bad (s : ByteArray) (l : List Int) (r : List UInt8) (w : World) (h : Read s.data.toList l r) (hr : r ≠ []) (hs : s.size ≤ 1048576) : Calls Tryd.prog 22 #[.string s] w fun e w' => e = .returned (.tuple #[.pointer none, .int .i64 l.length, .int .i64 1]) ∧ Below w.heap.size w w' := by
  have HW := Lib.hid (wrong_any s l r w h hs l.length (by rw [if_neg hr]))
  clear h hr
  go_enter Tryd.func22, Tryd.ntmps22
  go_wp2_with fail
  refine HW.out.mono ?_
  rintro e w1 ⟨rfl, hb⟩
  go_wp2_with fail
  go_ret3
  exact ⟨rfl, hb⟩
end Go.Proofs.YteicjmippeobpaaDoor
