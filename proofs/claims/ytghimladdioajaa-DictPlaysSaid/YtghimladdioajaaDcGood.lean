/- The goodness of terms as one function of terms (by choice: what its texts read as), the program's and the document's. -/
import Derived.Test.YtghimladdioajaaDcCutW
namespace Go.Proofs.Ytghimladdioajaa
open Go Go.RowKit
set_option linter.unusedVariables false
/-- goodness, the program's and the document's -/
def GoodFn (G : Tm → Bool) : Prop := ∀ X, Small X → (∀ w, MaxV w → Calls Try.prog 36 #[tmV X] w fun e w' => e = .returned (.bool (G X)) ∧ Below w.heap.size w w') ∧
  (∀ w, Calls Try.prog 35 #[.agg #[.int .i64 (kindV X), .string (text0 X), .string (text1 X), .string (text2 X)]] w fun e w' => e = .returned (.bool (G X)) ∧ Below w.heap.size w w') ∧ (G X = true → KeyT X) ∧ ∀ l1 r1 l2 r2, Read (text0 X).data.toList l1 r1 → Read (text1 X).data.toList l2 r2 → G X = goodV X r1 l1 l2 r2
theorem good_fn : ∃ G, GoodFn G := by
  have h : ∀ X : Tm, ∃ b : Bool, Small X → (∀ w, MaxV w → Calls Try.prog 36 #[tmV X] w fun e w' => e = .returned (.bool b) ∧ Below w.heap.size w w') ∧
      (∀ w, Calls Try.prog 35 #[.agg #[.int .i64 (kindV X), .string (text0 X), .string (text1 X), .string (text2 X)]] w fun e w' => e = .returned (.bool b) ∧ Below w.heap.size w w') ∧ (b = true → KeyT X) ∧ ∀ l1 r1 l2 r2, Read (text0 X).data.toList l1 r1 → Read (text1 X).data.toList l2 r2 → b = goodV X r1 l1 l2 r2 := by
    intro X
    obtain ⟨l1, r1, h1⟩ := read_some (text0 X).data.toList
    obtain ⟨l2, r2, h2⟩ := read_some (text1 X).data.toList
    refine ⟨goodV X r1 l1 l2 r2, fun hz => ⟨fun w hm => tgood_any X l1 r1 l2 r2 w h1 h2 hz hm, fun w => rgood_any X l1 r1 l2 r2 w h1 h2 hz, fun hb => ?_, fun l1' r1' l2' r2' h1' h2' => by obtain ⟨rfl, rfl⟩ := read_one h1 h1'; obtain ⟨rfl, rfl⟩ := read_one h2 h2'; rfl⟩⟩
    cases X with
    | blank s => trivial
    | iri s => trivial
    | lit s t l => trivial
    | odd n => simp [goodV] at hb
    | none => simp [goodV] at hb
  exact ⟨fun X => (h X).choose, fun X hz => (h X).choose_spec hz⟩
theorem goodAt_of {G : Tm → Bool} (hG : GoodFn G) {X : Tm} (hz : Small X) {w : World} (hm : MaxV w) : GoodAt X (G X) w := fun w1 hb => (hG X hz).1 w1 (hm.below hb)
end Go.Proofs.Ytghimladdioajaa
