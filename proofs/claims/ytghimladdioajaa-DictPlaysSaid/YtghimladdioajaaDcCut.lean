/- Package dict over this seat's program: what Cut does to the map (plain laws, the deletes one after the other). -/
import Derived.Test.YtghimladdioajaaDcPut
namespace Go.Proofs.Ytghimladdioajaa
open Go Go.RowKit
set_option linter.unusedVariables false
set_option linter.unusedSimpArgs false
/-- terms that are unlike each other -/
def Dist (ts : List Tm) : Prop := ∀ (i j : Nat) (hj : j < ts.length) (hi : i < j), eqT (ts[j]'hj) (ts[i]'(Nat.lt_trans hi hj)) = false
theorem eqT_self {x : Tm} (hx : KeyT x) : eqT x x = true := by
  cases x with
  | blank s => simp [eqT, sameS]
  | iri s => simp [eqT, sameS]
  | lit s t l => simp [eqT, sameS]
  | odd n => exact hx.elim
  | none => exact hx.elim
theorem dist_push {ts : List Tm} {x : Tm} (h : Dist ts) (hx : idxT x ts = none) : Dist (ts ++ [x]) := by
  intro i j hj hi
  rw [List.length_append, List.length_singleton] at hj
  by_cases hl : j < ts.length
  · rw [List.getElem_append_left hl, List.getElem_append_left (Nat.lt_trans hi hl)]
    exact h i j hl hi
  · obtain rfl : j = ts.length := by omega
    rw [List.getElem_append_left hi]
    simp only [List.getElem_append_right (Nat.le_refl _), Nat.sub_self, List.getElem_cons_zero]
    have hn := List.findIdx?_eq_none_iff.1 hx (ts[i]'hi) (List.getElem_mem hi)
    simpa using hn
theorem dist_take {ts : List Tm} (h : Dist ts) (n : Nat) : Dist (ts.take n) := by
  intro i j hj hi
  rw [List.length_take] at hj
  rw [List.getElem_take, List.getElem_take]
  exact h i j (by omega) hi
/-- what the map has when k terms behind the first n are struck -/
theorem idx_cut {ts : List Tm} (h : Dist ts) (hk : ∀ x ∈ ts, KeyT x) (n k : Nat) (hnk : n + k < ts.length) : idxT (ts[n + k]'hnk) (ts.take n ++ ts.drop (n + k)) = some n := by
  unfold idxT
  rw [List.findIdx?_eq_some_iff_getElem]
  have hn : (ts.take n).length = n := by rw [List.length_take]; omega
  refine ⟨by rw [List.length_append, hn, List.length_drop]; omega, ?_, ?_⟩
  · rw [List.getElem_append_right (by omega)]
    simp only [hn, Nat.sub_self, List.getElem_drop, Nat.add_zero]
    exact eqT_self (hk _ (List.getElem_mem hnk))
  · intro j hj
    rw [List.getElem_append_left (by omega), List.getElem_take]
    simpa using h j (n + k) hnk (by omega)
theorem erase_mid {es : Array MapEntry} {A B : List MapEntry} {e : MapEntry} (h : es.toList = A ++ e :: B) : (es.eraseIdxIfInBounds A.length).toList = A ++ B := by
  have hs : A.length < es.size := by rw [← Array.length_toList, h]; simp
  unfold Array.eraseIdxIfInBounds
  rw [dif_pos hs, Array.toList_eraseIdx, h]
  rw [List.eraseIdx_append_of_length_le (Nat.le_refl _)]
  simp
theorem setMap_again (w : World) (m : Nat) (es es' : Array MapEntry) (c c' : Nat) : setMap (setMap w m es c) m es' c' = setMap w m es' c' := by
  simp [setMap]
theorem setMap_self {w : World} {m : Nat} {es : Array MapEntry} {c : Nat} (h : w.heap[m]? = some (.map es c)) : setMap w m es c = w := by
  unfold setMap
  have : w.heap.setIfInBounds m (.map es c) = w.heap := by
    apply Array.ext_getElem?
    intro i
    rw [Array.getElem?_setIfInBounds]
    split
    · subst_vars
      rw [h]
      simp [lt_heap h]
    · rfl
  rw [this]
theorem find_key_ask (x : Tm) (w : World) (l : List MapEntry) (r : Option (Nat × Value)) (h : (Instr.findAsking 39 (tmV x) l 0).run Try.prog w = .ok r w) (hl : l ≠ []) :
    (Instr.findKey 39 (tmV x) l).run Try.prog w = .ok r w := by
  unfold Instr.findKey
  rw [Sem.run_bind, run_underlying Try.underlying39]
  simp only [Result.andThen_ok]
  cases l with
  | nil => exact absurd rfl hl
  | cons e q =>
    have hn : ∀ ms, Instr.findNow (.interface ms) (tmV x) (e :: q) 0 = none := by
      intro ms
      unfold Instr.findNow
      cases x <;> rfl
    rw [hn]
    exact h
theorem delete_at (x : Tm) (hx : KeyT x) (w : World) (b : Nat) (es : Array MapEntry) (clock j : Nat) (v : Value) (T : TypeId) (hb : w.heap[b]? = some (.map es clock))
    (hf : (Instr.findKey 39 (tmV x) es.toList).run Try.prog w = .ok (some (j, v)) w) :
    (Builtin.delete_ #[86, 39] T #[.map (some b), tmV x]).run Try.prog w = .ok (.tuple #[]) (setMap w b (es.eraseIdxIfInBounds j) clock) := by
  have hc := check_key x hx es.isEmpty w
  simp [Builtin.delete_, run_underlying Try.underlying86, MapKept.run_getObj_map hb, hc, hf, MapKept.run_setObj_map _ hb, Result.andThen, setMap, Sem.run_bind, Sem.run_pure]
/-- one delete: the term with the number n + k, when k are struck -/
theorem delete_step {w : World} {m : Nat} {es0 es : Array MapEntry} {c : Nat} {ts : List Tm} (T : TypeId) (he : Ents es0 ts) (hd : Dist ts) (hk : ∀ x ∈ ts, KeyT x) (n k : Nat) (hnk : n + k < ts.length)
    (hs : es.toList = es0.toList.take n ++ es0.toList.drop (n + k)) (hm : m < w.heap.size) :
    ∃ es', (Builtin.delete_ #[86, 39] T #[.map (some m), tmV (ts[n + k]'hnk)]).run Try.prog (setMap w m es c) = .ok (.tuple #[]) (setMap w m es' c) ∧ es'.toList = es0.toList.take n ++ es0.toList.drop (n + (k + 1)) := by
  have hx := hk _ (List.getElem_mem hnk)
  have hl0 : es0.toList.length = ts.length := by rw [Array.length_toList, he.1]
  have hkeys : es.toList.map (·.key) = (ts.take n ++ ts.drop (n + k)).map tmV := by
    rw [hs, List.map_append, List.map_append, List.map_take, List.map_drop, List.map_take, List.map_drop, ents_keys he]
  have hkk : ∀ x ∈ ts.take n ++ ts.drop (n + k), KeyT x := by
    intro x hx'
    rw [List.mem_append] at hx'
    rcases hx' with h | h
    · exact hk x (List.mem_of_mem_take h)
    · exact hk x (List.mem_of_mem_drop h)
  obtain ⟨e, B, hcons⟩ : ∃ e B, es0.toList.drop (n + k) = e :: B := by
    cases hc : es0.toList.drop (n + k) with
    | nil =>
      have := congrArg List.length hc
      rw [List.length_drop, hl0] at this
      simp at this
      omega
    | cons e B => exact ⟨e, B, rfl⟩
  have hA : (es0.toList.take n).length = n := by rw [List.length_take]; omega
  have hB : B = es0.toList.drop (n + (k + 1)) := by
    have := congrArg (List.drop 1) hcons
    rw [List.drop_drop] at this
    simpa [Nat.add_assoc, Nat.add_comm] using this.symm
  refine ⟨es.eraseIdxIfInBounds n, ?_, ?_⟩
  · have ha := find_asking (ts[n + k]'hnk) hx (setMap w m es c) es.toList _ 0 hkeys hkk
    rw [idx_cut hd hk n k hnk] at ha
    have hen : es.toList[n]? = some e := by
      rw [hs, hcons, List.getElem?_append_right (by omega), hA, Nat.sub_self]
      rfl
    simp only [Option.bind_some, hen, Option.map_some, Nat.zero_add] at ha
    have hf := find_key_ask _ _ _ _ ha (by rw [hs, hcons]; simp)
    have := delete_at _ hx (setMap w m es c) m es c n e.val T (setMap_same w es c hm) hf
    rw [setMap_again] at this
    exact this
  · have := erase_mid (es := es) (A := es0.toList.take n) (e := e) (B := B) (by rw [hs, hcons])
    rw [hA] at this
    rw [this, hB]
end Go.Proofs.Ytghimladdioajaa
