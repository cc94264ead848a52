/- Contracts of package term's Same over this seat's program: equality of terms as interface values. -/
import Derived.Test.YtghimladdioajaaTmOrder
import Derived.Laws.StructEq
import Derived.Stop.Asserts
import Derived.ChangeKeysEq
namespace Go.Proofs.Ytghimladdioajaa
open Go Go.RowKit
set_option linter.unusedVariables false
set_option linter.unusedSimpArgs false
def eqM (d : Nat) (xs ys : Array Value) : List (Bool × TypeId × Nat) → Sem Bool
  | [] => pure true
  | (n, t, o) :: fs =>
    if n = true then do
      let a ← part t xs o
      let b ← part t ys o
      let r ← Op.equalIn d t a b
      if (!r) = true then pure false else eqM d xs ys fs
    else eqM d xs ys fs
theorem eqF_eqM (d : Nat) (xs ys : Array Value) (fs : List Field) : Op.eqFields d xs ys fs = eqM d xs ys (fs.map fun f => (f.name != "_", f.type, f.offset)) := by
  induction fs with
  | nil => rfl
  | cons f fs ih =>
    simp only [Op.eqFields, List.map_cons, eqM, ih]
    by_cases h : f.name = "_" <;> simp [h]
theorem eq_struct (T : TypeId) (xs ys : Array Value) (m : List (Bool × TypeId × Nat)) (w : World) (ht : Try.prog.underlying T = some (.struct (Try.prog.fieldsOf T))) (hp : Try.prog.stoodInHeld T = false)
    (hm : ((Try.prog.fieldsOf T).toList.map fun f => (f.name != "_", f.type, f.offset)) = m) :
    (Op.equalIn 9999 T (.agg xs) (.agg ys)).run Try.prog w = (eqM 9998 xs ys m).run Try.prog w := by
  rw [run_equalIn_agg w 9998 T xs ys ht hp, eqF_eqM, hm]
theorem iface_same {P : Program} {ti : TypeId} {ms : Array (String × TypeId)} (tx : TypeId) (vx vy : Value) (hi : P.underlying ti = some (.interface ms)) (hI : (P.info? tx).map (fun i => i.comparable) = some true) (w : World) :
    (Go.binOp BinOp.eql ti (.iface tx vx) (.iface tx vy)).run P w = ((Op.equalIn 9999 tx vx vy).run P w).andThen fun b w' => .ok (.bool b) w' := by
  obtain ⟨i, h1, h2⟩ : ∃ i, P.info? tx = some i ∧ i.comparable = true := by
    cases h : P.info? tx with
    | none => rw [h] at hI; cases hI
    | some i => rw [h] at hI; exact ⟨i, rfl, by simpa using hI⟩
  have h : ∀ d : Nat, (Op.equalIn (d + 1) ti (.iface tx vx) (.iface tx vy)).run P w = (Op.equalIn d tx vx vy).run P w := fun d => by
    rw [Op.equalIn.eq_def]
    simp [run_underlying hi, run_typeInfo w h1, h2]
  simp only [binOp]
  simp [Op.equal, Op.maxDepth, h 9999]
/-- the same term -/
def eqT : Tm → Tm → Bool
  | .blank s, .blank s' => sameS s s'
  | .iri s, .iri s' => sameS s s'
  | .lit s t l, .lit s' t' l' => sameS s s' && (sameS t t' && sameS l l')
  | _, _ => false
theorem eq_blank (s : ByteArray) (s2 : ByteArray) (w : World) : (Go.binOp BinOp.eql 39 (.iface 93 (.agg #[.string s])) (.iface 93 (.agg #[.string s2]))).run Try.prog w = .ok (.bool (sameS s s2)) w := by
  rw [iface_same _ _ _ Try.underlying39 (by kernel_rfl) w, eq_struct _ _ _ [(true, 9, 0)] w (by kernel_rfl) (by kernel_rfl) (by kernel_rfl)]
  have p0 : ∀ w, (part 9 #[.string s] 0).run Try.prog w = .ok (.string s) w := fun w => by kernel_rfl
  have r0 : ∀ w, (part 9 #[.string s2] 0).run Try.prog w = .ok (.string s2) w := fun w => by kernel_rfl
  have q0 : ∀ w, (Op.equalIn 9998 9 (.string s) (.string s2)).run Try.prog w = .ok (s.toList == s2.toList) w := fun w => run_equalIn_string w 9997 _ s s2 Try.underlying9
  simp only [eqM, if_true, Sem.run_bind, p0, r0, q0, Result.andThen_ok, Sem.run_ite, Sem.run_pure]
  cases h0 : s.toList == s2.toList <;> simp [sameS, h0, Sem.run_pure]
theorem eq_iri (s : ByteArray) (s2 : ByteArray) (w : World) : (Go.binOp BinOp.eql 39 (.iface 95 (.agg #[.string s])) (.iface 95 (.agg #[.string s2]))).run Try.prog w = .ok (.bool (sameS s s2)) w := by
  rw [iface_same _ _ _ Try.underlying39 (by kernel_rfl) w, eq_struct _ _ _ [(true, 9, 0)] w (by kernel_rfl) (by kernel_rfl) (by kernel_rfl)]
  have p0 : ∀ w, (part 9 #[.string s] 0).run Try.prog w = .ok (.string s) w := fun w => by kernel_rfl
  have r0 : ∀ w, (part 9 #[.string s2] 0).run Try.prog w = .ok (.string s2) w := fun w => by kernel_rfl
  have q0 : ∀ w, (Op.equalIn 9998 9 (.string s) (.string s2)).run Try.prog w = .ok (s.toList == s2.toList) w := fun w => run_equalIn_string w 9997 _ s s2 Try.underlying9
  simp only [eqM, if_true, Sem.run_bind, p0, r0, q0, Result.andThen_ok, Sem.run_ite, Sem.run_pure]
  cases h0 : s.toList == s2.toList <;> simp [sameS, h0, Sem.run_pure]
theorem eq_lit (s t l : ByteArray) (s2 t2 l2 : ByteArray) (w : World) : (Go.binOp BinOp.eql 39 (.iface 84 (.agg #[.string s, .string t, .string l])) (.iface 84 (.agg #[.string s2, .string t2, .string l2]))).run Try.prog w = .ok (.bool (sameS s s2 && (sameS t t2 && (sameS l l2)))) w := by
  rw [iface_same _ _ _ Try.underlying39 (by kernel_rfl) w, eq_struct _ _ _ [(true, 9, 0), (true, 9, 1), (true, 9, 2)] w (by kernel_rfl) (by kernel_rfl) (by kernel_rfl)]
  have p0 : ∀ w, (part 9 #[.string s, .string t, .string l] 0).run Try.prog w = .ok (.string s) w := fun w => by kernel_rfl
  have r0 : ∀ w, (part 9 #[.string s2, .string t2, .string l2] 0).run Try.prog w = .ok (.string s2) w := fun w => by kernel_rfl
  have q0 : ∀ w, (Op.equalIn 9998 9 (.string s) (.string s2)).run Try.prog w = .ok (s.toList == s2.toList) w := fun w => run_equalIn_string w 9997 _ s s2 Try.underlying9
  have p1 : ∀ w, (part 9 #[.string s, .string t, .string l] 1).run Try.prog w = .ok (.string t) w := fun w => by kernel_rfl
  have r1 : ∀ w, (part 9 #[.string s2, .string t2, .string l2] 1).run Try.prog w = .ok (.string t2) w := fun w => by kernel_rfl
  have q1 : ∀ w, (Op.equalIn 9998 9 (.string t) (.string t2)).run Try.prog w = .ok (t.toList == t2.toList) w := fun w => run_equalIn_string w 9997 _ t t2 Try.underlying9
  have p2 : ∀ w, (part 9 #[.string s, .string t, .string l] 2).run Try.prog w = .ok (.string l) w := fun w => by kernel_rfl
  have r2 : ∀ w, (part 9 #[.string s2, .string t2, .string l2] 2).run Try.prog w = .ok (.string l2) w := fun w => by kernel_rfl
  have q2 : ∀ w, (Op.equalIn 9998 9 (.string l) (.string l2)).run Try.prog w = .ok (l.toList == l2.toList) w := fun w => run_equalIn_string w 9997 _ l l2 Try.underlying9
  simp only [eqM, if_true, Sem.run_bind, p0, r0, q0, p1, r1, q1, p2, r2, q2, Result.andThen_ok, Sem.run_ite, Sem.run_pure]
  cases h0 : s.toList == s2.toList <;> cases h1 : t.toList == t2.toList <;> cases h2 : l.toList == l2.toList <;> simp [sameS, h0, h1, h2, Sem.run_pure]
end Go.Proofs.Ytghimladdioajaa
