/- Contracts over this seat's program: a literal without a language, whose type is a good IRI, is good; so is the term. -/
import Derived.Test.YtghimladdioajaaTmIri
namespace Go.Proofs.Ytghimladdioajaa
open Go Go.RowKit
set_option linter.unusedVariables false
def xInt : ByteArray := ⟨#[104, 116, 116, 112, 58, 47, 47, 119, 119, 119, 46, 119, 51, 46, 111, 114, 103, 47, 50, 48, 48, 49, 47, 88, 77, 76, 83, 99, 104, 101, 109, 97, 35, 105, 110, 116, 101, 103, 101, 114]⟩
def xBool : ByteArray := ⟨#[104, 116, 116, 112, 58, 47, 47, 119, 119, 119, 46, 119, 51, 46, 111, 114, 103, 47, 50, 48, 48, 49, 47, 88, 77, 76, 83, 99, 104, 101, 109, 97, 35, 98, 111, 111, 108, 101, 97, 110]⟩
def xString : ByteArray := ⟨#[104, 116, 116, 112, 58, 47, 47, 119, 119, 119, 46, 119, 51, 46, 111, 114, 103, 47, 50, 48, 48, 49, 47, 88, 77, 76, 83, 99, 104, 101, 109, 97, 35, 115, 116, 114, 105, 110, 103]⟩
def xLangL : List UInt8 := [104, 116, 116, 112, 58, 47, 47, 119, 119, 119, 46, 119, 51, 46, 111, 114, 103, 47, 49, 57, 57, 57, 47, 48, 50, 47, 50, 50, 45, 114, 100, 102, 45, 115, 121, 110, 116, 97, 120, 45, 110, 115, 35, 108, 97, 110, 103, 83, 116, 114, 105, 110, 103]
def xIntL : List Int := [104, 116, 116, 112, 58, 47, 47, 119, 119, 119, 46, 119, 51, 46, 111, 114, 103, 47, 50, 48, 48, 49, 47, 88, 77, 76, 83, 99, 104, 101, 109, 97, 35, 105, 110, 116, 101, 103, 101, 114]
theorem read_ascii (b : List UInt8) (L : List Int) (h1 : b = textB L) (h2 : L.all (fun n => decide (0 ≤ n) && decide (n < 128)) = true) : Read b L [] :=
  ⟨by rw [List.append_nil]; exact h1, (fun n hn => by
    have := List.all_eq_true.1 h2 n hn
    simp only [Bool.and_eq_true, decide_eq_true_eq] at this
    exact .inl (by omega)), noSign_nil⟩
theorem read_xInt : Read xInt.data.toList xIntL [] := read_ascii _ _ (by decide +kernel) (by decide +kernel)
theorem iri_xInt (w : World) : Calls Try.prog 76 #[.agg #[.string xInt]] w fun e w' => e = .returned (.bool true) ∧ Below w.heap.size w w' :=
  iri_yes xInt xIntL w read_xInt (by decide +kernel) (by decide +kernel) (by decide +kernel)
set_option maxRecDepth 100000 in
set_option maxHeartbeats 1600000 in
theorem lit_yes (s t : ByteArray) (ls : List Int) (w : World) (h : Read s.data.toList ls []) (hs : s.size ≤ 4096) (hx : (t.toList == xLangL) = false)
    (hI : ∀ w, Calls Try.prog 76 #[.agg #[.string t]] w fun e w' => e = .returned (.bool true) ∧ Below w.heap.size w w') :
    Calls Try.prog 74 #[.agg #[.string s, .string t, .string ⟨#[]⟩]] w fun e w' => e = .returned (.bool true) ∧ Below w.heap.size w w' := by
  have HG := Lib.hid (fun w => good_any s ls [] w h (by omega))
  have HI := Lib.hid hI
  have hs1 : (s.size : Int) ≤ 4096 := by omega
  unfold xLangL at hx
  clear h hI
  go_enter Try.func74, Try.ntmps74
  go_wp2_with fail
  refine (HG.out _).mono ?_
  rintro e w1 ⟨rfl, hb1⟩
  have c0 : w1.cell? ⟨w.heap.size, 0, none⟩ = some (.string s) := cell_below (by simp [go_sem]) hb1
  have c1 : w1.cell? ⟨w.heap.size, 1, none⟩ = some (.string t) := cell_below (by simp [go_sem]) hb1
  have c2 : w1.cell? ⟨w.heap.size, 2, none⟩ = some (.string ⟨#[]⟩) := cell_below (by simp [go_sem]) hb1
  have hbw : Below w.heap.size w w1 := ((Below.refl w.heap.size w).alloc (Nat.le_refl _) _).trans (hb1.mono (by simp))
  have HB := Lib.hid hbw
  clear hb1 hbw HG
  go_wp2_with fail
  refine (HI.out _).mono ?_
  rintro e w2 ⟨rfl, hb2⟩
  have c3 := cell_below c2 hb2
  replace HB := Lib.hid (HB.out.trans (hb2.mono HB.out.size))
  clear hb2 HI c0 c1 c2
  go_wp2_with fail
  go_ret
  exact ⟨rfl, HB.out⟩
set_option maxRecDepth 100000 in
theorem tgood_lit (s t l : ByteArray) (w : World) (h : ∀ w, Calls Try.prog 74 #[.agg #[.string s, .string t, .string l]] w fun e w' => e = .returned (.bool true) ∧ Below w.heap.size w w') :
    Calls Try.prog 36 #[tmV (.lit s t l)] w fun e w' => e = .returned (.bool true) ∧ Below w.heap.size w w' := by
  have KX := Lib.hid (kind_any (.lit s t l))
  have HG := Lib.hid h
  clear h
  show Calls Try.prog 36 #[.iface 84 (.agg #[.string s, .string t, .string l])] w _
  go_enter Try.func36, Try.ntmps36
  go_wp2_with fail
  refine (KX.out _).mono ?_
  rintro e w' ⟨rfl, rfl⟩
  rw [show kindV (.lit s t l) = 2 from rfl]
  go_wp2_with fail
  refine (HG.out _).mono ?_
  rintro e w1 ⟨rfl, hb1⟩
  go_wp2_with fail
  go_ret
  exact ⟨rfl, hb1⟩
end Go.Proofs.Ytghimladdioajaa
