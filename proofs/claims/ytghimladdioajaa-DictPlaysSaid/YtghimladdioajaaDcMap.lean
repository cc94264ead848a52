/- A map with terms as keys (interface values): what lookups, stores, deletes do, over this seat's program. -/
import Derived.Test.YtghimladdioajaaTmEq
import Derived.MapKept
namespace Go.Proofs.Ytghimladdioajaa
open Go Go.RowKit
set_option linter.unusedVariables false
set_option linter.unusedSimpArgs false
set_option maxRecDepth 100000
/-- a term that may be a key -/
def KeyT : Tm → Prop
  | .odd _ => False
  | .none => False
  | _ => True
theorem eql_run (x y : Tm) (hx : KeyT x) (hy : KeyT y) (w : World) : (Go.binOp BinOp.eql 39 (tmV x) (tmV y)).run Try.prog w = .ok (.bool (eqT x y)) w := by
  cases x with
  | blank s =>
    cases y with
    | blank s2 => exact eq_blank s s2 w
    | iri s2 => exact run_eql_iface_types 93 95 _ _ Try.underlying39 (by decide) w
    | lit s2 t2 l2 => exact run_eql_iface_types 93 84 _ _ Try.underlying39 (by decide) w
    | odd n => exact hy.elim
    | none => exact hy.elim
  | iri s =>
    cases y with
    | blank s2 => exact run_eql_iface_types 95 93 _ _ Try.underlying39 (by decide) w
    | iri s2 => exact eq_iri s s2 w
    | lit s2 t2 l2 => exact run_eql_iface_types 95 84 _ _ Try.underlying39 (by decide) w
    | odd n => exact hy.elim
    | none => exact hy.elim
  | lit s t l =>
    cases y with
    | blank s2 => exact run_eql_iface_types 84 93 _ _ Try.underlying39 (by decide) w
    | iri s2 => exact run_eql_iface_types 84 95 _ _ Try.underlying39 (by decide) w
    | lit s2 t2 l2 => exact eq_lit s t l s2 t2 l2 w
    | odd n => exact hy.elim
    | none => exact hy.elim
  | odd n => exact hx.elim
  | none => exact hx.elim
theorem equal_of_eql {P : Program} {t tx ty : TypeId} {x y : Value} {w : World} {b : Bool} (h : (Go.binOp BinOp.eql t (.iface tx x) (.iface ty y)).run P w = .ok (.bool b) w) : (Op.equal t (.iface tx x) (.iface ty y)).run P w = .ok b w := by
  change ((Op.equal t (.iface tx x) (.iface ty y)) >>= fun b => pure (Value.bool b)).run P w = _ at h
  rw [Sem.run_bind] at h
  cases hr : (Op.equal t (.iface tx x) (.iface ty y)).run P w with
  | ok b' w' =>
    rw [hr] at h
    simp only [Result.andThen_ok, Sem.run_pure] at h
    cases h
    rfl
  | halt u w' =>
    rw [hr] at h
    simp [Result.andThen] at h
theorem equal_run (x y : Tm) (hx : KeyT x) (hy : KeyT y) (w : World) : (Op.equal 39 (tmV x) (tmV y)).run Try.prog w = .ok (eqT x y) w := by
  have h := eql_run x y hx hy w
  cases x <;> cases y <;> first | exact hx.elim | exact hy.elim | exact equal_of_eql h
theorem check_key (x : Tm) (hx : KeyT x) (em : Bool) (w : World) : (Instr.checkKey em 10000 39 (tmV x)).run Try.prog w = .ok () w := by
  cases x with
  | blank s => kernel_rfl
  | iri s => kernel_rfl
  | lit s t l => kernel_rfl
  | odd n => exact hx.elim
  | none => exact hx.elim
/-- the entries of a map: the terms in order, each with its number -/
def Ents (es : Array MapEntry) (ts : List Tm) : Prop := es.size = ts.length ∧ ∀ (i : Nat) (h : i < ts.length), ∃ e, es[i]? = some e ∧ e.key = tmV (ts[i]'h) ∧ e.val = .int .i64 i
def idxT (x : Tm) (ts : List Tm) : Option Nat := ts.findIdx? (eqT x)
theorem find_asking (x : Tm) (hx : KeyT x) (w : World) : ∀ (es : List MapEntry) (ks : List Tm) (i : Nat), es.map (·.key) = ks.map tmV → (∀ k ∈ ks, KeyT k) →
    (Instr.findAsking 39 (tmV x) es i).run Try.prog w = .ok ((idxT x ks).bind (fun j => (es[j]?).map (fun e => (i + j, e.val)))) w
  | [], ks, i, h, hk => by
    cases ks with
    | nil => rfl
    | cons k r => simp at h
  | e :: es, ks, i, h, hk => by
    cases ks with
    | nil => simp at h
    | cons k r =>
      simp only [List.map_cons, List.cons.injEq] at h
      have hq := equal_run x k hx (hk k (by simp)) w
      have ih := find_asking x hx w es r (i + 1) h.2 (fun k' hk' => hk k' (by simp [hk']))
      unfold Instr.findAsking
      rw [Sem.run_bind, h.1, hq]
      simp only [Result.andThen_ok]
      unfold idxT
      rw [List.findIdx?_cons]
      cases hb : eqT x k with
      | true => simp [Sem.run_pure]
      | false =>
        simp only [Bool.false_eq_true, if_false]
        rw [ih]
        unfold idxT
        cases hf : List.findIdx? (eqT x) r with
        | none => simp
        | some j =>
          simp only [Option.map_some, Option.bind_some, List.getElem?_cons_succ]
          congr 1
          cases es[j]? with
          | none => rfl
          | some e' => simp only [Option.map_some]; congr 2; omega
theorem ents_keys {es : Array MapEntry} {ts : List Tm} (h : Ents es ts) : es.toList.map (·.key) = ts.map tmV := by
  refine List.ext_getElem? fun i => ?_
  rw [List.getElem?_map, List.getElem?_map]
  by_cases hi : i < ts.length
  · obtain ⟨e, h1, h2, _⟩ := h.2 i hi
    rw [Array.getElem?_toList, h1, List.getElem?_eq_getElem hi]
    simp [h2]
  · have h1 := h.1
    rw [List.getElem?_eq_none (show es.toList.length ≤ i by rw [Array.length_toList]; omega), List.getElem?_eq_none (show ts.length ≤ i by omega)]
    rfl
theorem find_key (x : Tm) (hx : KeyT x) (w : World) (es : Array MapEntry) (ts : List Tm) (h : Ents es ts) (hk : ∀ k ∈ ts, KeyT k) :
    (Instr.findKey 39 (tmV x) es.toList).run Try.prog w = .ok ((idxT x ts).map (fun j : Nat => (j, Value.int .i64 (j : Int)))) w := by
  have ha := find_asking x hx w es.toList ts 0 (ents_keys h) hk
  have he : ((idxT x ts).bind (fun j => (es.toList[j]?).map (fun e => (0 + j, e.val)))) = (idxT x ts).map (fun j : Nat => (j, Value.int .i64 (j : Int))) := by
    cases hf : idxT x ts with
    | none => rfl
    | some j =>
      have hj : j < ts.length := by
        unfold idxT at hf
        exact (List.findIdx?_eq_some_iff_getElem.1 hf).1
      obtain ⟨e, h1, _, h3⟩ := h.2 j hj
      simp only [Option.bind_some, Option.map_some]
      rw [Array.getElem?_toList, h1, Option.map_some, h3, Nat.zero_add]
  rw [he] at ha
  unfold Instr.findKey
  rw [Sem.run_bind, run_underlying Try.underlying39]
  simp only [Result.andThen_ok]
  cases hl : es.toList with
  | nil =>
    have h0 : ts = [] := List.eq_nil_of_length_eq_zero (by have := h.1; rw [← Array.length_toList, hl] at this; simpa using this.symm)
    subst h0
    rfl
  | cons e r =>
    rw [hl] at ha
    have hn : ∀ ms, Instr.findNow (.interface ms) (tmV x) (e :: r) 0 = none := by
      intro ms
      unfold Instr.findNow
      cases x <;> rfl
    rw [hn]
    exact ha
theorem idx_lt {x : Tm} {ts : List Tm} {j : Nat} (h : idxT x ts = some j) : j < ts.length := (List.findIdx?_eq_some_iff_getElem.1 h).1
theorem then_ok {α β : Type} {x : Result α} {a : α} {w : World} (h : x = .ok a w) (f : α → World → Result β) : x.andThen f = f a w := by
  rw [h]
  rfl
theorem lookup_run (x : Tm) (hx : KeyT x) (w : World) (b : Nat) (es : Array MapEntry) (clock : Nat) (ts : List Tm) (hb : w.heap[b]? = some (.map es clock)) (h : Ents es ts) (hk : ∀ k ∈ ts, KeyT k) :
    (Instr.lookup 86 (.map (some b)) (tmV x) true).run Try.prog w = .ok (.tuple #[.int .i64 (((idxT x ts).map (fun j : Nat => (j : Int))).getD 0), .bool (idxT x ts).isSome]) w := by
  have hf := find_key x hx w es ts h hk
  have hc := check_key x hx es.isEmpty w
  have hz : (zeroValue 3).run Try.prog w = .ok (.int .i64 0) w := by kernel_rfl
  simp only [Instr.lookup, Sem.run_bind, run_underlying Try.underlying86, Result.andThen_ok, MapKept.run_getObj_map hb, Sem.run_pure]
  refine (then_ok hc _).trans ?_
  refine (then_ok hf _).trans ?_
  cases idxT x ts with
  | none =>
    simp only [Option.map_none, Sem.run_bind, Sem.run_pure]
    exact then_ok (then_ok hz _) _
  | some j => rfl
/-- the map's block, written anew -/
def setMap (w : World) (b : Nat) (es : Array MapEntry) (clock : Nat) : World := { w with heap := w.heap.setIfInBounds b (.map es clock) }
theorem update_run (x : Tm) (hx : KeyT x) (v : Value) (w : World) (b : Nat) (es : Array MapEntry) (clock : Nat) (ts : List Tm) (hb : w.heap[b]? = some (.map es clock)) (h : Ents es ts) (hk : ∀ k ∈ ts, KeyT k) (hn : idxT x ts = none) :
    (Instr.mapUpdate 86 (.map (some b)) (tmV x) v).run Try.prog w = .ok () (setMap w b (es.push { key := tmV x, val := v, born := clock }) (clock + 1)) := by
  have hf := find_key x hx w es ts h hk
  have hc := check_key x hx false w
  rw [hn] at hf
  simp only [Instr.mapUpdate, Sem.run_bind, run_underlying Try.underlying86, Result.andThen_ok, MapKept.run_getObj_map hb, hc, hf, Option.map_none, MapKept.run_setObj_map _ hb]
  rfl
theorem delete_run (x : Tm) (hx : KeyT x) (w : World) (b : Nat) (es : Array MapEntry) (clock : Nat) (ts : List Tm) (j : Nat) (T : TypeId) (hb : w.heap[b]? = some (.map es clock))
    (hf : (Instr.findKey 39 (tmV x) es.toList).run Try.prog w = .ok (some (j, Value.int .i64 j)) w) :
    (Builtin.delete_ #[86, 39] T #[.map (some b), tmV x]).run Try.prog w = .ok (.tuple #[]) (setMap w b (es.eraseIdxIfInBounds j) clock) := by
  have hc := check_key x hx es.isEmpty w
  simp [Builtin.delete_, run_underlying Try.underlying86, MapKept.run_getObj_map hb, hc, hf, MapKept.run_setObj_map _ hb, Result.andThen, setMap, Sem.run_bind, Sem.run_pure]
theorem ents_push {es : Array MapEntry} {ts : List Tm} (h : Ents es ts) (x : Tm) (c : Nat) : Ents (es.push { key := tmV x, val := .int .i64 ts.length, born := c }) (ts ++ [x]) := by
  refine ⟨by rw [Array.size_push, h.1]; simp, fun i hi => ?_⟩
  rw [List.length_append, List.length_singleton] at hi
  by_cases hl : i < ts.length
  · obtain ⟨e, h1, h2, h3⟩ := h.2 i hl
    exact ⟨e, by rw [Array.getElem?_push_lt (by rw [h.1]; exact hl), ← h1, Array.getElem?_eq_getElem (by rw [h.1]; exact hl)], by rw [h2, List.getElem_append_left hl], h3⟩
  · obtain rfl : i = ts.length := by omega
    refine ⟨{ key := tmV x, val := .int .i64 ts.length, born := c }, ?_, ?_, rfl⟩
    · have := h.1
      rw [← this, Array.getElem?_push_size]
    · simp
end Go.Proofs.Ytghimladdioajaa
