/- Contracts over this seat's program: the laws' short (chapter 5), Plain (chapter 4), Real of a document's term. -/
import Derived.Test.YtghimladdioajaaDcPutAll
namespace Go.Proofs.Ytghimladdioajaa
open Go Go.RowKit
set_option linter.unusedVariables false
/-- the document's term of a term -/
def refT (X : Tm) : Value := .agg #[.int .i64 (kindV X), .string (text0 X), .string (text1 X), .string (text2 X)]
def kN (k : Int) : Int := (k % 18446744073709551616) % 3
/-- the term that the laws make of it -/
def termK (k : Int) (x t l : ByteArray) : Tm := if kN k = 0 then .blank x else if kN k = 1 then .iri x else .lit x t l
def short5 (x t l : ByteArray) : Bool := decide ((x.size : Int) ≤ 300) && (decide ((t.size : Int) ≤ 300) && decide ((l.size : Int) ≤ 100))
set_option maxRecDepth 100000 in
set_option maxHeartbeats 1600000 in
theorem plain4_any (k : Int) (x t l : ByteArray) (w : World) : Calls Try.prog 11 #[.agg #[.int .i64 k, .string x, .string t, .string l]] w fun e w' => e = .returned (refT (termK k x t l)) ∧ Below w.heap.size w w' := by
  obtain ⟨U, hw⟩ : ∃ U, IntKind.u64.wrap k = U := ⟨_, rfl⟩
  have hU : U % 3 = kN k ∧ 0 ≤ U := by
    rw [← hw]
    have : IntKind.u64.wrap k = k % 18446744073709551616 := by
      simp [IntKind.wrap, IntKind.bits, IntKind.signed]
    rw [this]; unfold kN; omega
  unfold termK
  obtain ⟨hU1, hU2⟩ := hU
  rcases (by unfold kN; omega : kN k = 0 ∨ kN k = 1 ∨ kN k = 2) with h | h | h
  all_goals
    rw [h] at hU1 ⊢
    clear h
    go_enter Try.func11, Try.ntmps11
    go_wp2
  · refine bodyPost_ret (v := .agg #[.int .i64 0, .string x, .string ⟨#[]⟩, .string ⟨#[]⟩]) (by simp [results, Try.results11, go_sem]) rfl ?_
    exact ⟨rfl, by go_grown⟩
  · refine bodyPost_ret (v := .agg #[.int .i64 1, .string x, .string ⟨#[]⟩, .string ⟨#[]⟩]) (by simp [results, Try.results11, go_sem]) rfl ?_
    exact ⟨rfl, by go_grown⟩
  · refine bodyPost_ret (v := .agg #[.int .i64 2, .string x, .string t, .string l]) (by simp [results, Try.results11, go_sem]) rfl ?_
    exact ⟨rfl, by go_grown⟩
theorem real_any (X : Tm) (hX : KeyT X) (w : World) : Calls Try.prog 14 #[refT X] w fun e w' => e = .returned (tmV X) ∧ Below w.heap.size w w' := by
  cases X with
  | blank x =>
    show Calls Try.prog 14 #[.agg #[.int .i64 0, .string x, .string ⟨#[]⟩, .string ⟨#[]⟩]] w fun e w' => e = .returned (.iface 93 (.agg #[.string x])) ∧ Below w.heap.size w w'
    go_enter Try.func14, Try.ntmps14
    go_wp2
    go_ret
    exact ⟨rfl, by go_grown⟩
  | iri x =>
    show Calls Try.prog 14 #[.agg #[.int .i64 1, .string x, .string ⟨#[]⟩, .string ⟨#[]⟩]] w fun e w' => e = .returned (.iface 95 (.agg #[.string x])) ∧ Below w.heap.size w w'
    go_enter Try.func14, Try.ntmps14
    go_wp2
    go_ret
    exact ⟨rfl, by go_grown⟩
  | lit x t l =>
    show Calls Try.prog 14 #[.agg #[.int .i64 2, .string x, .string t, .string l]] w fun e w' => e = .returned (.iface 84 (.agg #[.string x, .string t, .string l])) ∧ Below w.heap.size w w'
    go_enter Try.func14, Try.ntmps14
    go_wp2
    go_ret
    exact ⟨rfl, by go_grown⟩
  | odd n => exact hX.elim
  | none => exact hX.elim
set_option maxRecDepth 100000 in
set_option maxHeartbeats 800000 in
theorem short5_any (k : Int) (x t l : ByteArray) (w : World) : Calls Try.prog 10 #[.agg #[.int .i64 k, .string x, .string t, .string l]] w fun e w' => e = .returned (.bool (short5 x t l)) ∧ Below w.heap.size w w' := by
  obtain ⟨R, hR⟩ : ∃ R, R = short5 x t l := ⟨_, rfl⟩
  rw [← hR]
  unfold short5 at hR
  have HB : Hid (Below w.heap.size w (w.alloc (.cells #[.int .i64 k, .string x, .string t, .string l] 31))) := Lib.hid (by go_grown)
  by_cases h1 : (x.size : Int) ≤ 300
  · by_cases h2 : (t.size : Int) ≤ 300
    · by_cases h3 : (l.size : Int) ≤ 100
      · obtain rfl : R = true := by rw [hR]; simp [h1, h2, h3]
        clear hR
        go_enter Try.func10, Try.ntmps10
        go_wp2
        go_ret
        exact ⟨by simp_all, HB.out⟩
      · obtain rfl : R = false := by rw [hR]; simp [h3]
        clear hR
        go_enter Try.func10, Try.ntmps10
        go_wp2
        go_ret
        exact ⟨by simp_all, HB.out⟩
    · obtain rfl : R = false := by rw [hR]; simp [h2]
      clear hR
      go_enter Try.func10, Try.ntmps10
      go_wp2
      go_ret
      exact ⟨by simp_all, HB.out⟩
  · obtain rfl : R = false := by rw [hR]; simp [h1]
    clear hR
    go_enter Try.func10, Try.ntmps10
    go_wp2
    go_ret
    exact ⟨by simp_all, HB.out⟩
end Go.Proofs.Ytghimladdioajaa
