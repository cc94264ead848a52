/- What a law's frame hands to its walk: an array of integers that came in by value, opened; a slice of integers that came in, as a row. -/
import Derived.Test.YtghimladdioajaaRows
import Derived.WalkKit
import Derived.ProofKit
import Derived.OpenShut
import Derived.Below
namespace Go.Proofs.Ytghimladdioajaa
open Go.ChangeShapes Go.WideShapes Go.ChangeAt Go.RowKit
/-- a slice of integers that came in: nil; or a row of cap cells, of which the first len are its elements -/
def RowAt (k : IntKind) (w : World) (a : Option Addr) (len cap : Nat) (zs : List Int) : Prop :=
  (a = none ∧ len = 0 ∧ cap = 0 ∧ zs = []) ∨
  ∃ x, a = some x ∧ len ≤ cap ∧ cap ≤ maxLen ∧ zs.length = cap ∧ (∀ i, i < zs.length → w.cell? (x.add i) = some (.int k (zs.getD i 0))) ∧ ∀ n ∈ zs, (Lit.int k n).wf = true
theorem open_arr {H : Type} {enc : TypeId × Value → H} {P : Program} {w : World} {base b0 n : Nat} {spare : Nat → Bool} {held : Bool} {r : Reach} {t e : TypeId} {k : IntKind} {v : Value} {d : DataW H} {ps : List MemPlace}
    (ht : P.underlying t = some (.array n e)) (he : P.underlying e = some (.int k)) (ce : P.cellsOf e = 1) (ct : P.cellsOf t = n)
    (hval : Value.okWide P w r b0 t v) (hd : DataW.Trod enc P w base spare held t v d ps) :
    ∃ zs : List Int, zs.length = n ∧ v = .agg (zs.map (Value.int k)).toArray ∧ ∀ z ∈ zs, (Lit.int k z).wf = true := by
  obtain ⟨cs, rfl, hsz, _⟩ : ∃ cs, v = .agg cs ∧ cs.size = P.cellsOf t ∧ Row.okWide P w r b0 t cs := by
    simpa [Value.okWide, ht] using hval
  obtain ⟨fuel, hf⟩ := hd
  obtain ⟨xs, m, _, _, _, hn, hel⟩ := DataW.trod_array ht hf
  rw [ct] at hsz
  obtain ⟨l⟩ := cs
  simp only [List.size_toArray] at hsz
  have each : ∀ i, i < n → ∃ z, l[i]? = some (.int k z) ∧ (Lit.int k z).wf = true := by
    intro i hi
    have h1 := hel i hi
    rw [ce, Nat.mul_one] at h1
    obtain ⟨y, hy⟩ : ∃ y, xs[i]? = some y := ⟨xs[i]'(by omega), List.getElem?_eq_getElem (by omega)⟩
    rw [hy] at h1
    obtain ⟨z, e1, _, e3⟩ := DataW.trod_int he h1
    refine ⟨z, ?_, e3⟩
    have e4 : l[i]? = ((l.drop i).take 1)[0]? := by rw [List.getElem?_take_of_lt (by omega), List.getElem?_drop]; rfl
    rw [e4]
    simp only [Value.cells] at e1
    rw [e1]; rfl
  refine ⟨l.map intOf, by simpa using hsz, ?_, ?_⟩
  · congr 2
    rw [List.map_map]
    refine List.ext_getElem? fun i => ?_
    rw [List.getElem?_map]
    by_cases hi : i < n
    · obtain ⟨z, hz, _⟩ := each i hi
      rw [hz]; rfl
    · rw [List.getElem?_eq_none (by omega)]; rfl
  · intro z hz
    obtain ⟨v, hv, rfl⟩ := List.mem_map.1 hz
    obtain ⟨i, hi, rfl⟩ := List.getElem_of_mem hv
    obtain ⟨z, hz, hw⟩ := each i (by omega)
    rw [List.getElem?_eq_getElem hi] at hz
    rw [Option.some.inj hz]
    exact hw
theorem list_three {α : Type} (l : List α) (h : l.length = 3) : ∃ a b c, l = [a, b, c] := by
  match l, h with
  | [a, b, c], _ => exact ⟨a, b, c, rfl⟩
theorem list_two {α : Type} (l : List α) (h : l.length = 2) : ∃ a b, l = [a, b] := by
  match l, h with
  | [a, b], _ => exact ⟨a, b, rfl⟩
end Go.Proofs.Ytghimladdioajaa
