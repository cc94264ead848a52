/- A document's triple that came in as an argument: its parts. -/
import Derived.Test.YtbchkhjkajagfaaDoorTmOpen
import Derived.Test.YtbchkhjkajagfaaDoorRaws3
namespace Go.Proofs.YtbchkhjkajagfaaDoor
open Go Go.RowKit Go.ChangeShapes Go.WideShapes Go.Deep
set_option linter.unusedVariables false
set_option maxRecDepth 100000 in
theorem open_tri {H : Type} {enc : TypeId × Value → H} {w : World} {base b0 : Nat} {spare : Nat → Bool} {held : Bool} {rc : Reach} {v : Value} {d : DataW H} {ps : List MemPlace}
    (hval : Value.okWide Tryd.prog w rc b0 47 v) (hd : DataW.Trod enc Tryd.prog w base spare held 47 v d ps) :
    ∃ r : Raw3, v = .agg (raw3L r).toArray ∧ r.s.In ∧ r.p.In ∧ r.o.In := by
  obtain ⟨cs, rfl, hsz⟩ := okWide_struct Tryd.underlying47 hval
  obtain ⟨fuel, hf0⟩ := hd
  have hC : Tryd.prog.cellsOf 47 = 12 := by kernel_rfl
  rw [hC] at hsz
  obtain ⟨l0⟩ := cs
  simp only [List.size_toArray] at hsz
  obtain ⟨v0, v1, v2, v3, v4, v5, v6, v7, v8, v9, v10, v11, rfl⟩ := twelve l0 hsz
  have hf1 : DataW.trod enc Tryd.prog w base spare held fuel 47 [v0, v1, v2, v3, v4, v5, v6, v7, v8, v9, v10, v11] = some (d, ps) := hf0
  obtain ⟨r, hr, hi⟩ := open_raw3 hf1
  exact ⟨r, by rw [← hr], hi⟩
end Go.Proofs.YtbchkhjkajagfaaDoor
