/- The contract of WindowParts' inner closure: it appends the next window to a list of its own. -/
import Derived.Test.YthfffgdelllcdaaAt
import Derived.Test.YthfffgdelllcdaaRep
import Derived.OneCell
namespace Go.Proofs.Ythfffgdelllcdaa
open Go.RowKit
/-- the list that the closure writes lies in a block of one cell; its elements in a block of its own, from base on -/
def PY (F : Int) (b base k : Nat) (w : World) : Prop := ∃ a cap, w.heap[b]? = some (.cells #[.slice a k cap] 29 (0, 0)) ∧ w.ownsRow base 3 1 (.slice a k cap) k (runV F k) ∧ (k = 0 → a = none ∧ cap = 0)
def PK (b base : Nat) (w w' : World) : Prop := Below b w w' ∧ ∀ j, b + 1 ≤ j → j < base → w'.heap[j]? = w.heap[j]?
theorem pk_refl (b base : Nat) (w : World) : PK b base w w := ⟨Below.refl _ _, fun _ _ _ => rfl⟩
theorem pk_trans {b base : Nat} {w w1 w2 : World} (h : PK b base w w1) (h' : PK b base w1 w2) : PK b base w w2 := ⟨h.1.trans h'.1, fun j h1 h2 => (h'.2 j h1 h2).trans (h.2 j h1 h2)⟩
theorem pk_below {b base : Nat} {w w1 : World} (h : Below w.heap.size w w1) (hb : b ≤ w.heap.size) (hB : base ≤ w.heap.size) : PK b base w w1 := ⟨h.mono hb, fun j _ h2 => h.block j (by omega)⟩
theorem py_below {F : Int} {b base k : Nat} {w w' : World} (h : PY F b base k w) (hb : Below w.heap.size w w') : PY F b base k w' := by
  obtain ⟨a, cap, h1, h2, h3⟩ := h
  exact ⟨a, cap, (hb.block _ (lt_of_block h1)).trans h1, ownsRow_below h2 hb, h3⟩
def PYR (F : Int) (b base k : Nat) (w : World) (e : Ending) (w' : World) : Prop := e = .returned (.bool true) ∧ PY F b base k w' ∧ PK b base w w'
set_option maxHeartbeats 800000 in
theorem py_any (F : Int) (b base k : Nat) (w : World) (hk : k < 900) (hbb : b < base) (hB : base ≤ w.heap.size) (hs : PY F b base k w) :
    Calls Try.prog 23 #[.int .i64 (F + k), .pointer (some ⟨b, 0, none⟩)] w (PYR F b base (k + 1) w) := by
  obtain ⟨i0, hi, hz0, hz1, hz2⟩ := info_parts infoI
  obtain ⟨a, cap, h1, ho, h3⟩ := hs
  have c1 := cell_of_one h1
  have f1 := free_of_one h1
  have H1 := Lib.hid h1
  clear h1 h3
  have lb : b < w.heap.size := by omega
  go_enter Try.func23, Try.ntmps23
  go_wp2_with (at_builtin; refine wpList_append_own _ rfl (.tmp 4) (.tmp 6) 29 rfl base 3 i0 (.int .i64 0) 1 8 Try.underlying29 hi hz0 hz1 hz2 rfl (by decide) _ _ _ rfl (ho.alloc _) ⟨w.heap.size, 0, none⟩ 1 1 [.int .i64 (F + k)] rfl rfl (cell_one_new _ _ _) (by simp [Value.oneCell']) (by unfold maxLen; omega) (by omega) (by simp; omega) ?_; intro v' w4 oa ga _; obtain ⟨a', cap', rfl⟩ := own_form oa; have hb4 : Below base w w4 := ((Below.refl base w).alloc hB _).grown ga (by simp; omega) (fun g hg => (ho.lt g hg).1); have h4 := (hb4.block b hbb).trans H1.out; have c4 := cell_of_one h4; have f4 := free_of_one h4; have H4 := Lib.hid h4; have HB4 := Lib.hid hb4; clear h4 hb4 ga c1 f1)
  go_ret
  have hd : decide ((k : Int) + 1 < 1000) = true := by simp; omega
  refine ⟨ret_bool hd, ⟨a', cap', one_setCell H4.out, ?_, fun h => by omega⟩, ⟨(HB4.out.mono (show b ≤ base by omega)).setCell (p := ⟨b, 0, none⟩) (Nat.le_refl _) _, fun j h1 h2 => ?_⟩⟩
  · rw [runV_succ]
    exact ownsRow_setCell_below oa hbb _
  · rw [Below.heap_setCell _ _ _ _ (by show j ≠ b; omega)]
    exact HB4.out.block j h2
end Go.Proofs.Ythfffgdelllcdaa
