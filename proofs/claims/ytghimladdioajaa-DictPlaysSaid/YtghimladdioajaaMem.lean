/- Small laws on memory: what is owned stays owned while a callee makes memory of its own. No program in sight. -/
import Derived.WalkKit
import Derived.Below
import Derived.Deep.QuietTactic
namespace Go.Proofs.Ytghimladdioajaa
open Go Go.RowKit
theorem below_drewN {B : Nat} {a w : World} (h : Below B a w) (n : Nat) : Below B a (w.drewN n) := ⟨h.os, h.tape, h.output, h.size, h.block⟩
theorem below_grownBy {w w' : World} (h : Below w.heap.size w w') (row : Option Nat) : w.grownBy w' row := ⟨h.os, h.tape, h.output, h.size, fun k hk _ => h.block k hk⟩
theorem ownsRow_below {w w' : World} {B : Nat} {e : TypeId} {s : Nat} {v : Value} {n : Nat} {xs : List Value} (h : w.ownsRow B e s v n xs) (hb : Below w.heap.size w w') : w'.ownsRow B e s v n xs := by
  refine h.kept (below_grownBy hb none) ?_
  cases hv : v.ownBlock with
  | none => exact .inl rfl
  | some g => exact .inr (fun e => by cases e)
theorem ownsRow_base {w : World} {B B' : Nat} {e : TypeId} {s : Nat} {v : Value} {n : Nat} {xs : List Value} (h : w.ownsRow B e s v n xs) (hB : B' ≤ B) : w.ownsRow B' e s v n xs := by
  obtain ⟨h1, (h2 | ⟨g, cap, cur, h3, h4, h5⟩)⟩ := h
  · exact ⟨h1, .inl h2⟩
  · exact ⟨h1, .inr ⟨g, cap, cur, h3, Nat.le_trans hB h4, h5⟩⟩
theorem own_zero {w : World} {B : Nat} {T : TypeId} {v : Value} {xs : List Value} (h : w.ownsRow B T 1 v 0 xs) : ∃ (a : Option Addr) (cap : Nat), v = .slice a 0 cap := by
  obtain ⟨_, (⟨rfl, _⟩ | ⟨g, cap, _, rfl, _⟩)⟩ := h
  · exact ⟨none, 0, rfl⟩
  · exact ⟨_, cap, rfl⟩
theorem own_form {w : World} {B : Nat} {T : TypeId} {v : Value} {n : Nat} {xs : List Value} (h : w.ownsRow B T 1 v n xs) : ∃ (a : Option Addr) (cap : Nat), v = .slice a n cap := by
  obtain ⟨_, (⟨rfl, rfl⟩ | ⟨g, cap, _, rfl, _⟩)⟩ := h
  · exact ⟨none, 0, rfl⟩
  · exact ⟨_, cap, rfl⟩
theorem cell_below {w w' : World} {a : Addr} {v : Value} (h : w.cell? a = some v) (hb : Below w.heap.size w w') : w'.cell? a = some v := (hb.cell (block_lt_of_cell h)).trans h
end Go.Proofs.Ytghimladdioajaa
