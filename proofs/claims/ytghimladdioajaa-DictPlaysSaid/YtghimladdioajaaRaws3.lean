/- Slices of the document's triples that came in as arguments: their cells, in order. -/
import Derived.Test.YtghimladdioajaaRaws
import Derived.Deep.Strs
namespace Go.Proofs.Ytghimladdioajaa
open Go Go.RowKit Go.ChangeShapes Go.WideShapes Go.Deep
set_option linter.unusedVariables false
section
variable {H : Type} {enc : TypeId × Value → H} {w : World} {base : Nat} {spare : Nat → Bool} {held : Bool}
def rawL (r : Raw) : List Value := [.int .i64 r.k, .string r.x, .string r.t, .string r.l]
def raw3L (r : Raw3) : List Value := rawL r.s ++ (rawL r.p ++ rawL r.o)
theorem twelve {α : Type} (l : List α) (h : l.length = 12) : ∃ a b c d e f g h i j k m, l = [a, b, c, d, e, f, g, h, i, j, k, m] := by
  match l, h with
  | [a, b, c, d, e, f, g, h, i, j, k, m], _ => exact ⟨a, b, c, d, e, f, g, h, i, j, k, m, rfl⟩
set_option maxRecDepth 100000 in
/-- twelve cells that read as a document's triple -/
theorem open_raw3 {n : Nat} {v0 v1 v2 v3 v4 v5 v6 v7 v8 v9 v10 v11 : Value} {y : DataW H × List MemPlace} (h : DataW.trod enc Try.prog w base spare held n 51 [v0, v1, v2, v3, v4, v5, v6, v7, v8, v9, v10, v11] = some y) :
    ∃ r : Raw3, [v0, v1, v2, v3, v4, v5, v6, v7, v8, v9, v10, v11] = raw3L r ∧ r.s.In ∧ r.p.In ∧ r.o.In := by
  obtain ⟨ys, n', hn', hy, hlen, hyl, hf⟩ := DataW.trod_struct Try.underlying51 h
  have hys : ys.length = 3 := hyl
  have hC : Try.prog.cellsOf 31 = 4 := by kernel_rfl
  have e0 : DataW.trod enc Try.prog w base spare held n' 31 (([v0, v1, v2, v3, v4, v5, v6, v7, v8, v9, v10, v11].drop 0).take (Try.prog.cellsOf 31)) = ys[0]? := hf 0 _ rfl
  rw [hC] at e0
  have e1 : DataW.trod enc Try.prog w base spare held n' 31 (([v0, v1, v2, v3, v4, v5, v6, v7, v8, v9, v10, v11].drop 4).take (Try.prog.cellsOf 31)) = ys[1]? := hf 1 _ rfl
  rw [hC] at e1
  have e2 : DataW.trod enc Try.prog w base spare held n' 31 (([v0, v1, v2, v3, v4, v5, v6, v7, v8, v9, v10, v11].drop 8).take (Try.prog.cellsOf 31)) = ys[2]? := hf 2 _ rfl
  rw [hC] at e2
  match ys, hys with
  | [y0, y1, y2], _ =>
    have t0 : DataW.trod enc Try.prog w base spare held n' 31 [v0, v1, v2, v3] = some y0 := e0
    have t1 : DataW.trod enc Try.prog w base spare held n' 31 [v4, v5, v6, v7] = some y1 := e1
    have t2 : DataW.trod enc Try.prog w base spare held n' 31 [v8, v9, v10, v11] = some y2 := e2
    obtain ⟨r0, rfl, rfl, rfl, rfl, i0⟩ := open_raw t0
    obtain ⟨r1, rfl, rfl, rfl, rfl, i1⟩ := open_raw t1
    obtain ⟨r2, rfl, rfl, rfl, rfl, i2⟩ := open_raw t2
    exact ⟨⟨r0, r1, r2⟩, rfl, i0, i1, i2⟩
theorem raw3_of_cells {b o : Nat} {r : Raw3} (hi : r.s.In ∧ r.p.In ∧ r.o.In) (h : ∀ j v, (raw3L r)[j]? = some v → w.cell? ⟨b, o + j, none⟩ = some v) : Raw3At w b o r :=
  ⟨⟨h 0 _ rfl, h 1 _ rfl, h 2 _ rfl, h 3 _ rfl, hi.1⟩, ⟨h 4 _ rfl, h 5 _ rfl, h 6 _ rfl, h 7 _ rfl, hi.2.1⟩, ⟨h 8 _ rfl, h 9 _ rfl, h 10 _ rfl, h 11 _ rfl, hi.2.2⟩⟩
set_option maxRecDepth 100000 in
theorem open_raw3s {fuel : Nat} {cs : List Value} {x : DataW H × List MemPlace} (h : DataW.trod enc Try.prog w base spare held fuel 47 cs = some x) :
    ∃ a len cap rs, cs = [.slice a len cap] ∧ len = rs.length ∧ Raw3sAt w a rs ∧ rs.length ≤ 9223372036854775807 := by
  have hC : Try.prog.cellsOf 51 = 12 := by kernel_rfl
  rcases open_slice Try.underlying47 h with ⟨h0, _⟩ | ⟨a, len, cap, m, n, D, Pl, hcs, hb, hl, hm, hmm, hx, hi⟩
  · exact ⟨none, 0, 0, [], h0, rfl, .inl rfl, by simp⟩
  · by_cases h0 : len = 0
    · subst h0
      exact ⟨some a, 0, cap, [], hcs, rfl, .inl rfl, by simp⟩
    have hlm : len ≤ m := by rw [hmm]; split <;> omega
    have hcells : ∀ i, i < len → ∃ r : Raw3, (r.s.In ∧ r.p.In ∧ r.o.In) ∧ ∀ j v, (raw3L r)[j]? = some v → w.cell? ((a.add (i * 12)).add j) = some v := by
      intro i hil
      obtain ⟨cs', hc, ht'⟩ := hi i (by omega)
      rw [hC] at hc
      obtain ⟨_, hcl, hat⟩ := World.cells?_some hc
      obtain ⟨v0, v1, v2, v3, v4, v5, v6, v7, v8, v9, v10, v11, rfl⟩ := twelve cs' hcl
      obtain ⟨r, hrr, hr⟩ := open_raw3 ht'
      refine ⟨r, hr, fun j v hj => ?_⟩
      rw [← hrr] at hj
      have hj4 : j < 12 := by simpa using (List.getElem?_eq_some_iff.1 hj).1
      rw [hat j hj4]
      exact hj
    obtain ⟨r0, _, hr0⟩ := hcells 0 (by omega)
    have ha : ∃ b off, a = ⟨b, off, none⟩ := by
      have h00 := hr0 0 _ rfl
      rw [show (a.add (0 * 12)).add 0 = a.add 0 from by simp [Addr.add]] at h00
      exact plain_addr 0 h00 rfl
    obtain ⟨b, off, rfl⟩ := ha
    obtain ⟨rs, hrl, hrs⟩ := list_of_each len (fun i r => Raw3At w b (off + i * 12) r) (fun i hil => by
      obtain ⟨r, hr, hc⟩ := hcells i hil
      refine ⟨r, raw3_of_cells hr fun j v hj => ?_⟩
      have := hc j v hj
      rwa [add_plain', add_plain'] at this)
    unfold maxLen at hm
    exact ⟨_, len, cap, rs, hcs, hrl.symm, .inr ⟨b, off, rfl, by omega, hrs⟩, by omega⟩
end
end Go.Proofs.Ytghimladdioajaa
