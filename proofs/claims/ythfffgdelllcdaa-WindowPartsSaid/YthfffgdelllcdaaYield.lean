/- The contract of WindowReports' own closure: it takes the next window, and counts. -/
import Derived.Test.YthfffgdelllcdaaWindow
import Derived.Test.YthfffgdelllcdaaAt
import Derived.OneCell
namespace Go.Proofs.Ythfffgdelllcdaa
open Go.RowKit
/-- what the law's closure has captured: a shape, two ends, the most; and three cells that it writes, one behind the other: the next one, how many, whether all was well -/
def YS (W S B fr to m x n : Int) (ok : Bool) (bS bF bT bM b : Nat) (w : World) : Prop :=
  (w.cell? ⟨bS, 0, none⟩ = some (.int .i64 W) ∧ w.cell? ⟨bS, 1, none⟩ = some (.int .i64 S) ∧ w.cell? ⟨bS, 2, none⟩ = some (.int .i64 B)) ∧
  w.cell? ⟨bF, 0, none⟩ = some (.int .i64 fr) ∧ w.cell? ⟨bT, 0, none⟩ = some (.int .i64 to) ∧ w.cell? ⟨bM, 0, none⟩ = some (.int .u8 m) ∧
  w.heap[b]? = some (.cells #[.int .i64 x] 3 (0, 0)) ∧ w.heap[b + 1]? = some (.cells #[.int .i64 n] 3 (0, 0)) ∧ w.heap[b + 2]? = some (.cells #[.bool ok] 4 (0, 0))
/-- what the closure leaves alone -/
def YK (b : Nat) (w w' : World) : Prop := Below b w w' ∧ ∀ k, b + 3 ≤ k → k < w.heap.size → w'.heap[k]? = w.heap[k]?
def YR (b : Nat) (r : Bool) (w : World) (P : World → Prop) (e : Ending) (w' : World) : Prop := e = .returned (.bool r) ∧ YK b w w' ∧ P w'
theorem ys_below {W S B fr to m x n : Int} {ok : Bool} {bS bF bT bM b : Nat} {w w' : World} (h : YS W S B fr to m x n ok bS bF bT bM b w) (hb : Below w.heap.size w w') : YS W S B fr to m x n ok bS bF bT bM b w' := by
  obtain ⟨⟨h0, h1, h2⟩, h3, h4, h5, h6, h7, h8⟩ := h
  exact ⟨⟨cell_below h0 hb, cell_below h1 hb, cell_below h2 hb⟩, cell_below h3 hb, cell_below h4 hb, cell_below h5 hb, (hb.block _ (lt_of_block h6)).trans h6, (hb.block _ (lt_of_block h7)).trans h7, (hb.block _ (lt_of_block h8)).trans h8⟩
theorem cell_block {w w' : World} {b o : Nat} (h : w'.heap[b]? = w.heap[b]?) : w'.cell? ⟨b, o, none⟩ = w.cell? ⟨b, o, none⟩ := World.cell?_of_block (w := w) h
theorem yield_end {W S B fr to m x n : Int} {ok : Bool} {bS bF bT bM b : Nat} {w w1 : World} {o : Obj} (x' n' : Int) (ok' : Bool) (lS : bS < b) (lF : bF < b) (lT : bT < b) (lM : bM < b) (hs : YS W S B fr to m x n ok bS bF bT bM b w1) (hb : Below w.heap.size w w1) (lb : b + 2 < w.heap.size) :
    YK b w ((((w1.setCell ⟨b + 2, 0, none⟩ (.bool ok')).setCell ⟨b, 0, none⟩ (.int .i64 x')).setCell ⟨b + 1, 0, none⟩ (.int .i64 n')).alloc o) ∧
    YS W S B fr to m x' n' ok' bS bF bT bM b ((((w1.setCell ⟨b + 2, 0, none⟩ (.bool ok')).setCell ⟨b, 0, none⟩ (.int .i64 x')).setCell ⟨b + 1, 0, none⟩ (.int .i64 n')).alloc o) := by
  have hz := hb.size
  obtain ⟨⟨h0, h1, h2⟩, h3, h4, h5, h6, h7, h8⟩ := hs
  have hk : ∀ k, k < w1.heap.size → k ≠ b → k ≠ b + 1 → k ≠ b + 2 → ((((w1.setCell ⟨b + 2, 0, none⟩ (.bool ok')).setCell ⟨b, 0, none⟩ (.int .i64 x')).setCell ⟨b + 1, 0, none⟩ (.int .i64 n')).alloc o).heap[k]? = w1.heap[k]? := by
    intro k h a1 a2 a3
    rw [Below.heap_alloc _ _ _ (by simpa using h), Below.heap_setCell _ _ _ _ a2, Below.heap_setCell _ _ _ _ a1, Below.heap_setCell _ _ _ _ a3]
  refine ⟨⟨?_, fun k hk1 hk2 => (hk k (by omega) (by omega) (by omega) (by omega)).trans (hb.block k hk2)⟩, ⟨⟨?_, ?_, ?_⟩, ?_, ?_, ?_, ?_, ?_, ?_⟩⟩
  · exact ((((hb.mono (by omega)).setCell (by simp) _).setCell (by simp) _).setCell (by simp) _).alloc (by simp; omega) _
  · rw [cell_block (hk bS (by omega) (by omega) (by omega) (by omega))]; exact h0
  · rw [cell_block (hk bS (by omega) (by omega) (by omega) (by omega))]; exact h1
  · rw [cell_block (hk bS (by omega) (by omega) (by omega) (by omega))]; exact h2
  · rw [cell_block (hk bF (by omega) (by omega) (by omega) (by omega))]; exact h3
  · rw [cell_block (hk bT (by omega) (by omega) (by omega) (by omega))]; exact h4
  · rw [cell_block (hk bM (by omega) (by omega) (by omega) (by omega))]; exact h5
  · rw [Below.heap_alloc _ _ _ (by simp; omega), Below.heap_setCell _ _ _ _ (by simp)]
    exact one_setCell (by rw [Below.heap_setCell _ _ _ _ (by simp)]; exact h6)
  · rw [Below.heap_alloc _ _ _ (by simp; omega)]
    exact one_setCell (by rw [Below.heap_setCell _ _ _ _ (by simp), Below.heap_setCell _ _ _ _ (by simp)]; exact h7)
  · rw [Below.heap_alloc _ _ _ (by simp; omega), Below.heap_setCell _ _ _ _ (by simp), Below.heap_setCell _ _ _ _ (by simp)]
    exact one_setCell h8
set_option maxHeartbeats 800000 in
theorem yield_any (W S B i fr to n m : Int) (bS bF bT bM b : Nat) (w : World) (h : Sh W S B) (i0 : 0 ≤ i) (i1 : i ≤ 4611686018427387904) (hi : i * S + B ≤ 2305843009213693952 - W)
    (hfr : fr < i * S + B + W) (hto : i * S + B + W ≤ to) (n0 : 0 ≤ n) (n1 : n ≤ 4611686018427387904) (m0 : 0 ≤ m) (m1 : m ≤ 255)
    (lS : bS < b) (lF : bF < b) (lT : bT < b) (lM : bM < b) (hs : YS W S B fr to m i n true bS bF bT bM b w) (r : Bool) (hr : r = decide (n + 1 < m)) :
    Calls Try.prog 21 #[.int .i64 i, .pointer (some ⟨bS, 0, none⟩), .pointer (some ⟨b + 2, 0, none⟩), .pointer (some ⟨b, 0, none⟩), .pointer (some ⟨bF, 0, none⟩), .pointer (some ⟨bT, 0, none⟩), .pointer (some ⟨b + 1, 0, none⟩), .pointer (some ⟨bM, 0, none⟩)] w
      (YR b r w (YS W S B fr to m (i + 1) (n + 1) true bS bF bT bM b)) := by
  have HS := Lib.hid hs
  obtain ⟨⟨c0, c1, c2⟩, _, _, _, h6, h7, h8⟩ := hs
  have lb := lt_of_block h8
  have HR : Hid (r = decide (n + 1 < m)) := Lib.hid hr
  clear h6 h7 h8 hr
  go_enter Try.func21, Try.ntmps21
  go_wp2_with fail
  refine (window_ok W S B i _ h i0 (by omega) hi).mono ?_
  rintro e w1 ⟨rfl, hb1⟩
  have HS1 := Lib.hid (ys_below HS.out hb1)
  clear c0 c1 c2
  have HB1 := Lib.hid hb1
  have lb1 : b + 2 < w1.heap.size := by have := hb1.size; omega
  clear hb1
  have g1 : decide (fr < i * S + B + W) = true := by simpa using hfr
  have g2 : decide (i * S + B + W ≤ to) = true := by simpa using hto
  obtain ⟨_, q3, q4, q5, h6, h7, h8⟩ := HS1.out
  have q6 := cell_of_one h6
  have q7 := cell_of_one h7
  have q8 := cell_of_one h8
  have f6 := free_of_one h6
  have f7 := free_of_one h7
  have f8 := free_of_one h8
  clear h6 h7 h8
  have l0 : b < w1.heap.size := by omega
  have l1 : b + 1 < w1.heap.size := by omega
  have l2 : bF < w1.heap.size := by omega
  have l3 : bT < w1.heap.size := by omega
  have l4 : bM < w1.heap.size := by omega
  go_wp2_with fail
  go_ret
  obtain ⟨k1, k2⟩ := yield_end (o := .cells #[.int .i64 (i * S + B), .int .i64 (i * S + B + W)] 35) (i + 1) (n + 1) true lS lF lT lM HS1.out HB1.out lb
  exact ⟨ret_bool HR.out.symm, k1, k2⟩
end Go.Proofs.Ythfffgdelllcdaa
