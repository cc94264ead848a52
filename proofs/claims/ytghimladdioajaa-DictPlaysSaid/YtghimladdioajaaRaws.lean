/- Slices of the document's terms, and of its triples, that came in as arguments: their cells, in order. -/
import Derived.Test.YtghimladdioajaaTmOpen
import Derived.Test.YtghimladdioajaaMem
import Derived.Deep.Slices
namespace Go.Proofs.Ytghimladdioajaa
open Go Go.RowKit Go.ChangeShapes Go.WideShapes Go.Deep
set_option linter.unusedVariables false
/-- a document's term as it came in -/
structure Raw where
  k : Int
  x : ByteArray
  t : ByteArray
  l : ByteArray
def Raw.In (r : Raw) : Prop := -9223372036854775808 ≤ r.k ∧ r.k ≤ 9223372036854775807 ∧ r.x.size ≤ 9223372036854775807 ∧ r.t.size ≤ 9223372036854775807 ∧ r.l.size ≤ 9223372036854775807
def RawAt (w : World) (b o : Nat) (r : Raw) : Prop :=
  w.cell? ⟨b, o, none⟩ = some (.int .i64 r.k) ∧ w.cell? ⟨b, o + 1, none⟩ = some (.string r.x) ∧ w.cell? ⟨b, o + 2, none⟩ = some (.string r.t) ∧ w.cell? ⟨b, o + 3, none⟩ = some (.string r.l) ∧ r.In
def RawsAt (w : World) (a : Option Addr) (rs : List Raw) : Prop :=
  rs = [] ∨ ∃ b off, a = some ⟨b, off, none⟩ ∧ rs.length ≤ 9223372036854775807 ∧ ∀ (i : Nat) (h : i < rs.length), RawAt w b (off + i * 4) (rs[i]'h)
structure Raw3 where
  s : Raw
  p : Raw
  o : Raw
def Raw3At (w : World) (b o : Nat) (r : Raw3) : Prop := RawAt w b o r.s ∧ RawAt w b (o + 4) r.p ∧ RawAt w b (o + 8) r.o
def Raw3sAt (w : World) (a : Option Addr) (rs : List Raw3) : Prop :=
  rs = [] ∨ ∃ b off, a = some ⟨b, off, none⟩ ∧ rs.length ≤ 9223372036854775807 ∧ ∀ (i : Nat) (h : i < rs.length), Raw3At w b (off + i * 12) (rs[i]'h)
theorem RawAt.below {w w' : World} {b o : Nat} {r : Raw} (h : RawAt w b o r) (hb : Below w.heap.size w w') : RawAt w' b o r := by
  obtain ⟨h0, h1, h2, h3, hr⟩ := h
  exact ⟨cell_below h0 hb, cell_below h1 hb, cell_below h2 hb, cell_below h3 hb, hr⟩
theorem RawsAt.below {w w' : World} {a : Option Addr} {rs : List Raw} (h : RawsAt w a rs) (hb : Below w.heap.size w w') : RawsAt w' a rs := by
  rcases h with h | ⟨b, off, h1, h2, h3⟩
  · exact .inl h
  · exact .inr ⟨b, off, h1, h2, fun i hi => (h3 i hi).below hb⟩
theorem Raw3At.below {w w' : World} {b o : Nat} {r : Raw3} (h : Raw3At w b o r) (hb : Below w.heap.size w w') : Raw3At w' b o r := ⟨h.1.below hb, h.2.1.below hb, h.2.2.below hb⟩
theorem Raw3sAt.below {w w' : World} {a : Option Addr} {rs : List Raw3} (h : Raw3sAt w a rs) (hb : Below w.heap.size w w') : Raw3sAt w' a rs := by
  rcases h with h | ⟨b, off, h1, h2, h3⟩
  · exact .inl h
  · exact .inr ⟨b, off, h1, h2, fun i hi => (h3 i hi).below hb⟩
theorem RawsAt.at_ {w : World} {a : Option Addr} {rs : List Raw} (h : RawsAt w a rs) (i : Nat) (hi : i < rs.length) : ∃ b off, a = some ⟨b, off, none⟩ ∧ RawAt w b (off + i * 4) (rs[i]'hi) := by
  rcases h with rfl | ⟨b, off, h1, h2, h3⟩
  · simp at hi
  · exact ⟨b, off, h1, h3 i hi⟩
theorem Raw3sAt.at_ {w : World} {a : Option Addr} {rs : List Raw3} (h : Raw3sAt w a rs) (i : Nat) (hi : i < rs.length) : ∃ b off, a = some ⟨b, off, none⟩ ∧ Raw3At w b (off + i * 12) (rs[i]'hi) := by
  rcases h with rfl | ⟨b, off, h1, h2, h3⟩
  · simp at hi
  · exact ⟨b, off, h1, h3 i hi⟩
/-- a list out of what stands at each place -/
theorem list_of_each {α : Type} (n : Nat) (P : Nat → α → Prop) (h : ∀ i, i < n → ∃ x, P i x) : ∃ l : List α, l.length = n ∧ ∀ (i : Nat) (hi : i < l.length), P i (l[i]'hi) := by
  refine ⟨List.ofFn (fun i : Fin n => (h i.1 i.2).choose), by simp, fun i hi => ?_⟩
  rw [List.getElem_ofFn]
  exact (h i (by simpa using hi)).choose_spec
section
variable {H : Type} {enc : TypeId × Value → H} {w : World} {base : Nat} {spare : Nat → Bool} {held : Bool}
theorem add_plain' (b off n : Nat) : (⟨b, off, none⟩ : Addr).add n = ⟨b, off + n, none⟩ := by unfold Addr.add; split <;> simp_all
theorem plain_addr {a : Addr} {v : Value} (n : Nat) (h : w.cell? (a.add n) = some v) (h0 : n = 0) : ∃ b off, a = ⟨b, off, none⟩ := by
  subst h0
  obtain ⟨b, off, sp⟩ := a
  cases sp with
  | none => exact ⟨b, off, rfl⟩
  | some s => exfalso; rw [show (⟨b, off, some s⟩ : Addr).add 0 = ⟨b, off, some s⟩ from rfl] at h; unfold World.cell? at h; simp only [Option.isSome_some, if_true] at h; split at h <;> cases h
set_option maxRecDepth 100000 in
/-- four cells that read as a document's term -/
theorem open_raw {n : Nat} {v0 v1 v2 v3 : Value} {y : DataW H × List MemPlace} (h : DataW.trod enc Try.prog w base spare held n 31 [v0, v1, v2, v3] = some y) :
    ∃ r : Raw, v0 = .int .i64 r.k ∧ v1 = .string r.x ∧ v2 = .string r.t ∧ v3 = .string r.l ∧ r.In := by
  obtain ⟨ys, n', hn', hy, hlen, hyl, hf⟩ := DataW.trod_struct Try.underlying31 h
  have hys : ys.length = 4 := hyl
  have e0 := hf 0 _ rfl
  have e1 := hf 1 _ rfl
  have e2 := hf 2 _ rfl
  have e3 := hf 3 _ rfl
  match ys, hys with
  | [y0, y1, y2, y3], _ =>
    have t0 : DataW.trod enc Try.prog w base spare held n' 3 [v0] = some y0 := e0
    have t1 : DataW.trod enc Try.prog w base spare held n' 9 [v1] = some y1 := e1
    have t2 : DataW.trod enc Try.prog w base spare held n' 9 [v2] = some y2 := e2
    have t3 : DataW.trod enc Try.prog w base spare held n' 9 [v3] = some y3 := e3
    obtain ⟨k0, q0, _, w0⟩ := DataW.trod_int Try.underlying3 t0
    obtain ⟨s1, q1, _, w1⟩ := DataW.trod_string Try.underlying9 t1
    obtain ⟨s2, q2, _, w2⟩ := DataW.trod_string Try.underlying9 t2
    obtain ⟨s3, q3, _, w3⟩ := DataW.trod_string Try.underlying9 t3
    cases q0; cases q1; cases q2; cases q3
    have b0 : IntKind.min .i64 ≤ k0 ∧ k0 ≤ IntKind.max .i64 := by simpa [Lit.wf] using w0
    have f0 : (-9223372036854775808 : Int) ≤ k0 ∧ k0 ≤ 9223372036854775807 := b0
    unfold maxLen at w1 w2 w3
    exact ⟨⟨k0, s1, s2, s3⟩, rfl, rfl, rfl, rfl, f0.1, f0.2, show s1.size ≤ _ by omega, show s2.size ≤ _ by omega, show s3.size ≤ _ by omega⟩
theorem four {α : Type} (l : List α) (h : l.length = 4) : ∃ a b c d, l = [a, b, c, d] := by
  match l, h with
  | [a, b, c, d], _ => exact ⟨a, b, c, d, rfl⟩
set_option maxRecDepth 100000 in
theorem open_raws {fuel : Nat} {cs : List Value} {x : DataW H × List MemPlace} (h : DataW.trod enc Try.prog w base spare held fuel 22 cs = some x) :
    ∃ a len cap rs, cs = [.slice a len cap] ∧ len = rs.length ∧ RawsAt w a rs ∧ rs.length ≤ 9223372036854775807 := by
  have hC : Try.prog.cellsOf 31 = 4 := by kernel_rfl
  rcases open_slice Try.underlying22 h with ⟨h0, _⟩ | ⟨a, len, cap, m, n, D, Pl, hcs, hb, hl, hm, hmm, hx, hi⟩
  · exact ⟨none, 0, 0, [], h0, rfl, .inl rfl, by simp⟩
  · by_cases h0 : len = 0
    · subst h0
      exact ⟨some a, 0, cap, [], hcs, rfl, .inl rfl, by simp⟩
    have hlm : len ≤ m := by rw [hmm]; split <;> omega
    have hcells : ∀ i, i < len → ∃ r : Raw, r.In ∧ ∀ j v, [Value.int .i64 r.k, .string r.x, .string r.t, .string r.l][j]? = some v → w.cell? ((a.add (i * 4)).add j) = some v := by
      intro i hil
      obtain ⟨cs', hc, ht'⟩ := hi i (by omega)
      rw [hC] at hc
      obtain ⟨_, hcl, hat⟩ := World.cells?_some hc
      obtain ⟨v0, v1, v2, v3, rfl⟩ := four cs' hcl
      obtain ⟨r, rfl, rfl, rfl, rfl, hr⟩ := open_raw ht'
      refine ⟨r, hr, fun j v hj => ?_⟩
      have hj4 : j < 4 := by simpa using (List.getElem?_eq_some_iff.1 hj).1
      rw [hat j hj4]
      exact hj
    obtain ⟨r0, _, hr0⟩ := hcells 0 (by omega)
    have ha : ∃ b off, a = ⟨b, off, none⟩ := by
      have h00 := hr0 0 _ rfl
      rw [show (a.add (0 * 4)).add 0 = a.add 0 from by simp [Addr.add]] at h00
      exact plain_addr 0 h00 rfl
    obtain ⟨b, off, rfl⟩ := ha
    obtain ⟨rs, hrl, hrs⟩ := list_of_each len (fun i r => RawAt w b (off + i * 4) r) (fun i hil => by
      obtain ⟨r, hr, hc⟩ := hcells i hil
      have hc' : ∀ j v, [Value.int .i64 r.k, .string r.x, .string r.t, .string r.l][j]? = some v → w.cell? ⟨b, off + i * 4 + j, none⟩ = some v := by
        intro j v hj
        have := hc j v hj
        rwa [add_plain', add_plain'] at this
      have h00 := hc' 0 _ rfl
      rw [Nat.add_zero] at h00
      exact ⟨r, h00, hc' 1 _ rfl, hc' 2 _ rfl, hc' 3 _ rfl, hr⟩)
    unfold maxLen at hm
    exact ⟨_, len, cap, rs, hcs, hrl.symm, .inr ⟨b, off, rfl, by omega, hrs⟩, by omega⟩
end
end Go.Proofs.Ytghimladdioajaa
