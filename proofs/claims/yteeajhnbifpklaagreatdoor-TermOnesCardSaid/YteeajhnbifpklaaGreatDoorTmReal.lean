/- Contracts over this seat's program: the laws' short, plain, Real of a document's term. -/
import Derived.Test.YteeajhnbifpklaaGreatDoorTmAwake
namespace Go.Proofs.YteeajhnbifpklaaGreatDoor
open Go Go.RowKit
set_option linter.unusedVariables false
/-- a document's term, as a value -/
def refV (k : Int) (x t l : ByteArray) : Value := .agg #[.int .i64 k, .string x, .string t, .string l]
def shortV (x t l : ByteArray) : Bool := decide ((x.size : Int) ≤ 5000) && (decide ((t.size : Int) ≤ 300) && decide ((l.size : Int) ≤ 100))
/-- the term that the laws make of it -/
def termOf (k : Int) (x t l : ByteArray) : Tm := if k % 4 = 0 then .blank x else if k % 4 = 1 then .iri x else if k % 4 = 2 then .lit x t l else .odd 0
set_option maxRecDepth 100000 in
set_option maxHeartbeats 800000 in
theorem short_any (k : Int) (x t l : ByteArray) (w : World) : Calls Tryz.prog 5 #[.agg #[.int .i64 k, .string x, .string t, .string l]] w fun e w' => e = .returned (.bool (shortV x t l)) ∧ Below w.heap.size w w' := by
  obtain ⟨R, hR⟩ : ∃ R, R = shortV x t l := ⟨_, rfl⟩
  rw [← hR]
  unfold shortV at hR
  have HB : Hid (Below w.heap.size w (w.alloc (.cells #[.int .i64 k, .string x, .string t, .string l] 23))) := Lib.hid (by go_grown)
  by_cases h1 : (x.size : Int) ≤ 5000
  · by_cases h2 : (t.size : Int) ≤ 300
    · by_cases h3 : (l.size : Int) ≤ 100
      · obtain rfl : R = true := by rw [hR]; simp [h1, h2, h3]
        clear hR
        go_enter Tryz.func5, Tryz.ntmps5
        go_wp2
        go_ret
        exact ⟨by simp_all, HB.out⟩
      · obtain rfl : R = false := by rw [hR]; simp [h3]
        clear hR
        go_enter Tryz.func5, Tryz.ntmps5
        go_wp2
        go_ret
        exact ⟨by simp_all, HB.out⟩
    · obtain rfl : R = false := by rw [hR]; simp [h2]
      clear hR
      go_enter Tryz.func5, Tryz.ntmps5
      go_wp2
      go_ret
      exact ⟨by simp_all, HB.out⟩
  · obtain rfl : R = false := by rw [hR]; simp [h1]
    clear hR
    go_enter Tryz.func5, Tryz.ntmps5
    go_wp2
    go_ret
    exact ⟨by simp_all, HB.out⟩
/-- the document's term, plain -/
def plainR (k : Int) (x t l : ByteArray) : Value := if k % 4 = 2 then .agg #[.int .i64 2, .string x, .string t, .string l] else .agg #[.int .i64 (k % 4), .string (if k % 4 = 3 then ⟨#[]⟩ else x), .string ⟨#[]⟩, .string ⟨#[]⟩]
set_option maxRecDepth 100000 in
set_option maxHeartbeats 1600000 in
theorem plainr_any (k : Int) (x t l : ByteArray) (w : World) : Calls Tryz.prog 6 #[.agg #[.int .i64 k, .string x, .string t, .string l]] w fun e w' => e = .returned (plainR k x t l) ∧ Below w.heap.size w w' := by
  obtain ⟨U, hw⟩ : ∃ U, IntKind.u64.wrap k = U := ⟨_, rfl⟩
  have hU : U % 4 = k % 4 ∧ 0 ≤ U := by
    rw [← hw]
    have : IntKind.u64.wrap k = k % 18446744073709551616 := by
      simp [IntKind.wrap, IntKind.bits, IntKind.signed]
    rw [this]; omega
  unfold plainR
  obtain ⟨hU1, hU2⟩ := hU
  rcases (by omega : k % 4 = 0 ∨ k % 4 = 1 ∨ k % 4 = 2 ∨ k % 4 = 3) with h | h | h | h
  all_goals
    rw [h] at hU1 ⊢
    clear h
    go_enter Tryz.func6, Tryz.ntmps6
    go_wp2
  · refine bodyPost_ret (v := .agg #[.int .i64 0, .string x, .string ⟨#[]⟩, .string ⟨#[]⟩]) (by simp [results, Tryz.results6, go_sem]) rfl ?_
    exact ⟨rfl, by go_grown⟩
  · refine bodyPost_ret (v := .agg #[.int .i64 1, .string x, .string ⟨#[]⟩, .string ⟨#[]⟩]) (by simp [results, Tryz.results6, go_sem]) rfl ?_
    exact ⟨rfl, by go_grown⟩
  · refine bodyPost_ret (v := .agg #[.int .i64 2, .string x, .string t, .string l]) (by simp [results, Tryz.results6, go_sem]) rfl ?_
    exact ⟨rfl, by go_grown⟩
  · refine bodyPost_ret (v := .agg #[.int .i64 3, .string ⟨#[]⟩, .string ⟨#[]⟩, .string ⟨#[]⟩]) (by simp [results, Tryz.results6, go_sem]) rfl ?_
    exact ⟨rfl, by go_grown⟩
set_option maxRecDepth 100000 in
set_option maxHeartbeats 800000 in
theorem real_plain (k : Int) (x t l : ByteArray) (w : World) : Calls Tryz.prog 7 #[plainR k x t l] w fun e w' => e = .returned (tmV (termOf k x t l)) ∧ Below w.heap.size w w' := by
  unfold plainR termOf
  rcases (by omega : k % 4 = 0 ∨ k % 4 = 1 ∨ k % 4 = 2 ∨ k % 4 = 3) with h | h | h | h
  · rw [h]
    show Calls Tryz.prog 7 #[.agg #[.int .i64 0, .string x, .string ⟨#[]⟩, .string ⟨#[]⟩]] w fun e w' => e = .returned (.iface 58 (.agg #[.string x])) ∧ Below w.heap.size w w'
    clear h
    go_enter Tryz.func7, Tryz.ntmps7
    go_wp2
    go_ret
    exact ⟨rfl, by go_grown⟩
  · rw [h]
    show Calls Tryz.prog 7 #[.agg #[.int .i64 1, .string x, .string ⟨#[]⟩, .string ⟨#[]⟩]] w fun e w' => e = .returned (.iface 50 (.agg #[.string x])) ∧ Below w.heap.size w w'
    clear h
    go_enter Tryz.func7, Tryz.ntmps7
    go_wp2
    go_ret
    exact ⟨rfl, by go_grown⟩
  · rw [h]
    show Calls Tryz.prog 7 #[.agg #[.int .i64 2, .string x, .string t, .string l]] w fun e w' => e = .returned (.iface 53 (.agg #[.string x, .string t, .string l])) ∧ Below w.heap.size w w'
    clear h
    go_enter Tryz.func7, Tryz.ntmps7
    go_wp2
    go_ret
    exact ⟨rfl, by go_grown⟩
  · rw [h]
    show Calls Tryz.prog 7 #[.agg #[.int .i64 3, .string ⟨#[]⟩, .string ⟨#[]⟩, .string ⟨#[]⟩]] w fun e w' => e = .returned (.iface 60 (.agg #[.int .i64 0])) ∧ Below w.heap.size w w'
    clear h
    go_enter Tryz.func7, Tryz.ntmps7
    go_wp2
    go_ret
    exact ⟨rfl, by go_grown⟩
end Go.Proofs.YteeajhnbifpklaaGreatDoor
