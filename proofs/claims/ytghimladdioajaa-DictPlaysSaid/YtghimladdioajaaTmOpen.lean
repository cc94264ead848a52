/- A document's term that came in as an argument: its parts. -/
import Derived.Test.YtghimladdioajaaOpen
import Derived.Deep.Fields
import Derived.ChangeSame
import Derived.WideShapes
namespace Go.Proofs.Ytghimladdioajaa
open Go Go.RowKit Go.ChangeShapes Go.WideShapes Go.Deep
set_option linter.unusedVariables false
set_option maxRecDepth 100000 in
theorem open_ref {H : Type} {enc : TypeId × Value → H} {w : World} {base b0 : Nat} {spare : Nat → Bool} {held : Bool} {r : Reach} {v : Value} {d : DataW H} {ps : List MemPlace}
    (hval : Value.okWide Try.prog w r b0 31 v) (hd : DataW.Trod enc Try.prog w base spare held 31 v d ps) :
    ∃ (k : Int) (s t l : ByteArray), v = .agg #[.int .i64 k, .string s, .string t, .string l] ∧ -9223372036854775808 ≤ k ∧ k ≤ 9223372036854775807 ∧ s.size ≤ 9223372036854775807 ∧ t.size ≤ 9223372036854775807 ∧ l.size ≤ 9223372036854775807 := by
  obtain ⟨cs, rfl, hsz⟩ := okWide_struct Try.underlying31 hval
  obtain ⟨fuel, hf0⟩ := hd
  obtain ⟨ys, n', hn', hy, hlen, hyl, hf⟩ := DataW.trod_struct Try.underlying31 hf0
  have h4 : Try.prog.cellsOf 31 = 4 := by kernel_rfl
  rw [h4] at hsz
  obtain ⟨l0⟩ := cs
  simp only [List.size_toArray] at hsz
  match l0, hsz with
  | [v0, v1, v2, v3], _ =>
    have hys : ys.length = 4 := hyl
    have e0 := hf 0 _ rfl
    have e1 := hf 1 _ rfl
    have e2 := hf 2 _ rfl
    have e3 := hf 3 _ rfl
    match ys, hys with
    | [y0, y1, y2, y3], _ =>
      have t0 : DataW.trod enc Try.prog w base spare held n' 3 [v0] = some y0 := e0
      have t1 : DataW.trod enc Try.prog w base spare held n' 9 [v1] = some y1 := e1
      have t2 : DataW.trod enc Try.prog w base spare held n' 9 [v2] = some y2 := e2
      have t3 : DataW.trod enc Try.prog w base spare held n' 9 [v3] = some y3 := e3
      obtain ⟨k0, q0, _, w0⟩ := DataW.trod_int Try.underlying3 t0
      obtain ⟨s1, q1, _, w1⟩ := DataW.trod_string Try.underlying9 t1
      obtain ⟨s2, q2, _, w2⟩ := DataW.trod_string Try.underlying9 t2
      obtain ⟨s3, q3, _, w3⟩ := DataW.trod_string Try.underlying9 t3
      cases q0; cases q1; cases q2; cases q3
      have b0 : IntKind.min .i64 ≤ k0 ∧ k0 ≤ IntKind.max .i64 := by simpa [Lit.wf] using w0
      have f0 : (-9223372036854775808 : Int) ≤ k0 ∧ k0 ≤ 9223372036854775807 := b0
      unfold maxLen at w1 w2 w3
      exact ⟨k0, s1, s2, s3, rfl, f0.1, f0.2, by omega, by omega, by omega⟩
end Go.Proofs.Ytghimladdioajaa
