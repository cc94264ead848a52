/- Slices of DictPlays' acts that came in as arguments: their cells, in order. The document's dictionary over this seat's program: Cut. The document's dictionary over this seat's program: Key. The document's dictionary over this seat's program: Triple. DictPlays, its parts: the lemmas; a piece of a function's code by its number. DictPlays: too many acts, or a room that is none. DictPlays: the region that asks whether an act's texts are short. -/
import Derived.Test.YtghimladdioajaaRaws3
import Derived.Test.YtghimladdioajaaDcIs
import Derived.Test.YtghimladdioajaaDcPlain
import Derived.Test.YtghimladdioajaaKeys
namespace Go.Proofs.Ytghimladdioajaa
open Go Go.RowKit Go.ChangeShapes Go.WideShapes Go.Deep
set_option linter.unusedVariables false
/-- an act as it came in -/
structure RawA where
  kd : Int
  n : Int
  t : Raw3
  a : Int
  b : Int
  c : Int
def RawA.In (r : RawA) : Prop := 0 ≤ r.kd ∧ r.kd ≤ 255 ∧ (-9223372036854775808 ≤ r.n ∧ r.n ≤ 9223372036854775807) ∧ r.t.s.In ∧ r.t.p.In ∧ r.t.o.In
def rawAL (r : RawA) : List Value := .int .u8 r.kd :: .int .i64 r.n :: (raw3L r.t ++ [.int .i64 r.a, .int .i64 r.b, .int .i64 r.c])
def RawAAt (w : World) (b o : Nat) (r : RawA) : Prop := (∀ j v, (rawAL r)[j]? = some v → w.cell? ⟨b, o + j, none⟩ = some v) ∧ r.In
def RawAsAt (w : World) (a : Option Addr) (rs : List RawA) : Prop :=
  rs = [] ∨ ∃ b off, a = some ⟨b, off, none⟩ ∧ ∀ i (hi : i < rs.length), RawAAt w b (off + i * 17) (rs[i]'hi)
theorem RawAAt.below {w w' : World} {b o : Nat} {r : RawA} (h : RawAAt w b o r) (hb : Below w.heap.size w w') : RawAAt w' b o r :=
  ⟨fun j v hj => cell_below (h.1 j v hj) hb, h.2⟩
theorem RawAsAt.below {w w' : World} {a : Option Addr} {rs : List RawA} (h : RawAsAt w a rs) (hb : Below w.heap.size w w') : RawAsAt w' a rs := by
  rcases h with h | ⟨b, off, ha, h⟩
  · exact .inl h
  · exact .inr ⟨b, off, ha, fun i hi => (h i hi).below hb⟩
theorem RawAsAt.at_ {w : World} {a : Option Addr} {rs : List RawA} (h : RawAsAt w a rs) (i : Nat) (hi : i < rs.length) : ∃ b off, a = some ⟨b, off, none⟩ ∧ RawAAt w b (off + i * 17) (rs[i]'hi) := by
  rcases h with rfl | ⟨b, off, ha, h⟩
  · simp at hi
  · exact ⟨b, off, ha, h i hi⟩
theorem rawa_cells {w : World} {b o : Nat} {r : RawA} (h : RawAAt w b o r) : w.cell? ⟨b, o, none⟩ = some (.int .u8 r.kd) ∧ w.cell? ⟨b, o + 1, none⟩ = some (.int .i64 r.n) ∧ w.cell? ⟨b, o + 2, none⟩ = some (.int .i64 r.t.s.k) ∧ w.cell? ⟨b, o + 3, none⟩ = some (.string r.t.s.x) ∧ w.cell? ⟨b, o + 4, none⟩ = some (.string r.t.s.t) ∧ w.cell? ⟨b, o + 5, none⟩ = some (.string r.t.s.l) ∧ w.cell? ⟨b, o + 6, none⟩ = some (.int .i64 r.t.p.k) ∧ w.cell? ⟨b, o + 7, none⟩ = some (.string r.t.p.x) ∧ w.cell? ⟨b, o + 8, none⟩ = some (.string r.t.p.t) ∧ w.cell? ⟨b, o + 9, none⟩ = some (.string r.t.p.l) ∧ w.cell? ⟨b, o + 10, none⟩ = some (.int .i64 r.t.o.k) ∧ w.cell? ⟨b, o + 11, none⟩ = some (.string r.t.o.x) ∧ w.cell? ⟨b, o + 12, none⟩ = some (.string r.t.o.t) ∧ w.cell? ⟨b, o + 13, none⟩ = some (.string r.t.o.l) ∧ w.cell? ⟨b, o + 14, none⟩ = some (.int .i64 r.a) ∧ w.cell? ⟨b, o + 15, none⟩ = some (.int .i64 r.b) ∧ w.cell? ⟨b, o + 16, none⟩ = some (.int .i64 r.c) :=
  ⟨h.1 0 _ rfl, h.1 1 _ rfl, h.1 2 _ rfl, h.1 3 _ rfl, h.1 4 _ rfl, h.1 5 _ rfl, h.1 6 _ rfl, h.1 7 _ rfl, h.1 8 _ rfl, h.1 9 _ rfl, h.1 10 _ rfl, h.1 11 _ rfl, h.1 12 _ rfl, h.1 13 _ rfl, h.1 14 _ rfl, h.1 15 _ rfl, h.1 16 _ rfl⟩
theorem cells17 {w : World} {b : Nat} {T : TypeId} {x0 x1 x2 x3 x4 x5 x6 x7 x8 x9 x10 x11 x12 x13 x14 x15 x16 : Value} (h1 : w.heap[b]? = some (.cells #[x0, x1, x2, x3, x4, x5, x6, x7, x8, x9, x10, x11, x12, x13, x14, x15, x16] T (0, 0))) : w.cell? ⟨b, 0, none⟩ = some x0 ∧ w.cell? ⟨b, 1, none⟩ = some x1 ∧ w.cell? ⟨b, 2, none⟩ = some x2 ∧ w.cell? ⟨b, 3, none⟩ = some x3 ∧ w.cell? ⟨b, 4, none⟩ = some x4 ∧ w.cell? ⟨b, 5, none⟩ = some x5 ∧ w.cell? ⟨b, 6, none⟩ = some x6 ∧ w.cell? ⟨b, 7, none⟩ = some x7 ∧ w.cell? ⟨b, 8, none⟩ = some x8 ∧ w.cell? ⟨b, 9, none⟩ = some x9 ∧ w.cell? ⟨b, 10, none⟩ = some x10 ∧ w.cell? ⟨b, 11, none⟩ = some x11 ∧ w.cell? ⟨b, 12, none⟩ = some x12 ∧ w.cell? ⟨b, 13, none⟩ = some x13 ∧ w.cell? ⟨b, 14, none⟩ = some x14 ∧ w.cell? ⟨b, 15, none⟩ = some x15 ∧ w.cell? ⟨b, 16, none⟩ = some x16 := by
  refine ⟨?_, ?_, ?_, ?_, ?_, ?_, ?_, ?_, ?_, ?_, ?_, ?_, ?_, ?_, ?_, ?_, ?_⟩ <;> simp [World.cell?, h1]
section
variable {H : Type} {enc : TypeId × Value → H} {w : World} {base : Nat} {spare : Nat → Bool} {held : Bool}
theorem seventeen {α : Type} (l : List α) (h : l.length = 17) : ∃ v0 v1 v2 v3 v4 v5 v6 v7 v8 v9 v10 v11 v12 v13 v14 v15 v16, l = [v0, v1, v2, v3, v4, v5, v6, v7, v8, v9, v10, v11, v12, v13, v14, v15, v16] := by
  match l, h with
  | [v0, v1, v2, v3, v4, v5, v6, v7, v8, v9, v10, v11, v12, v13, v14, v15, v16], _ => exact ⟨v0, v1, v2, v3, v4, v5, v6, v7, v8, v9, v10, v11, v12, v13, v14, v15, v16, rfl⟩
set_option maxRecDepth 100000 in
/-- three cells that read as three integers -/
theorem open_three {n : Nat} {v0 v1 v2 : Value} {y : DataW H × List MemPlace} (h : DataW.trod enc Try.prog w base spare held n 53 [v0, v1, v2] = some y) :
    ∃ a b c : Int, v0 = .int .i64 a ∧ v1 = .int .i64 b ∧ v2 = .int .i64 c := by
  obtain ⟨xs, m, _, _, _, hn, hel⟩ := DataW.trod_array Try.underlying53 h
  have hC : Try.prog.cellsOf 3 = 1 := by kernel_rfl
  have e0 := hel 0 (by omega)
  have e1 := hel 1 (by omega)
  have e2 := hel 2 (by omega)
  rw [hC] at e0 e1 e2
  have t0 : DataW.trod enc Try.prog w base spare held m 3 [v0] = xs[0]? := e0
  have t1 : DataW.trod enc Try.prog w base spare held m 3 [v1] = xs[1]? := e1
  have t2 : DataW.trod enc Try.prog w base spare held m 3 [v2] = xs[2]? := e2
  match xs, hn with
  | [x0, x1, x2], _ =>
    obtain ⟨k0, q0, _, w0⟩ := DataW.trod_int Try.underlying3 t0
    obtain ⟨k1, q1, _, w1⟩ := DataW.trod_int Try.underlying3 t1
    obtain ⟨k2, q2, _, w2⟩ := DataW.trod_int Try.underlying3 t2
    cases q0; cases q1; cases q2
    exact ⟨k0, k1, k2, rfl, rfl, rfl⟩
set_option maxRecDepth 100000 in
/-- seventeen cells that read as an act -/
theorem open_rawa {n : Nat} {v0 v1 v2 v3 v4 v5 v6 v7 v8 v9 v10 v11 v12 v13 v14 v15 v16 : Value} {y : DataW H × List MemPlace} (h : DataW.trod enc Try.prog w base spare held n 67 [v0, v1, v2, v3, v4, v5, v6, v7, v8, v9, v10, v11, v12, v13, v14, v15, v16] = some y) :
    ∃ r : RawA, [v0, v1, v2, v3, v4, v5, v6, v7, v8, v9, v10, v11, v12, v13, v14, v15, v16] = rawAL r ∧ r.In := by
  obtain ⟨ys, n', hn', hy, hlen, hyl, hf⟩ := DataW.trod_struct Try.underlying67 h
  have hys : ys.length = 4 := hyl
  have hC0 : Try.prog.cellsOf 5 = 1 := by kernel_rfl
  have hC1 : Try.prog.cellsOf 3 = 1 := by kernel_rfl
  have hC2 : Try.prog.cellsOf 51 = 12 := by kernel_rfl
  have hC3 : Try.prog.cellsOf 53 = 3 := by kernel_rfl
  have e0 : DataW.trod enc Try.prog w base spare held n' 5 (([v0, v1, v2, v3, v4, v5, v6, v7, v8, v9, v10, v11, v12, v13, v14, v15, v16].drop 0).take (Try.prog.cellsOf 5)) = ys[0]? := hf 0 _ rfl
  rw [hC0] at e0
  have e1 : DataW.trod enc Try.prog w base spare held n' 3 (([v0, v1, v2, v3, v4, v5, v6, v7, v8, v9, v10, v11, v12, v13, v14, v15, v16].drop 1).take (Try.prog.cellsOf 3)) = ys[1]? := hf 1 _ rfl
  rw [hC1] at e1
  have e2 : DataW.trod enc Try.prog w base spare held n' 51 (([v0, v1, v2, v3, v4, v5, v6, v7, v8, v9, v10, v11, v12, v13, v14, v15, v16].drop 2).take (Try.prog.cellsOf 51)) = ys[2]? := hf 2 _ rfl
  rw [hC2] at e2
  have e3 : DataW.trod enc Try.prog w base spare held n' 53 (([v0, v1, v2, v3, v4, v5, v6, v7, v8, v9, v10, v11, v12, v13, v14, v15, v16].drop 14).take (Try.prog.cellsOf 53)) = ys[3]? := hf 3 _ rfl
  rw [hC3] at e3
  match ys, hys with
  | [y0, y1, y2, y3], _ =>
    have t0 : DataW.trod enc Try.prog w base spare held n' 5 [v0] = some y0 := e0
    have t1 : DataW.trod enc Try.prog w base spare held n' 3 [v1] = some y1 := e1
    have t2 : DataW.trod enc Try.prog w base spare held n' 51 [v2, v3, v4, v5, v6, v7, v8, v9, v10, v11, v12, v13] = some y2 := e2
    have t3 : DataW.trod enc Try.prog w base spare held n' 53 [v14, v15, v16] = some y3 := e3
    obtain ⟨k0, q0, _, w0⟩ := DataW.trod_int Try.underlying5 t0
    obtain ⟨k1, q1, _, w1⟩ := DataW.trod_int Try.underlying3 t1
    obtain ⟨r, hr, i0, i1, i2⟩ := open_raw3 t2
    obtain ⟨a, b, c, rfl, rfl, rfl⟩ := open_three t3
    cases q0; cases q1
    have b0 : IntKind.min .u8 ≤ k0 ∧ k0 ≤ IntKind.max .u8 := by simpa [Lit.wf] using w0
    have f0 : (0 : Int) ≤ k0 ∧ k0 ≤ 255 := b0
    have b1 : IntKind.min .i64 ≤ k1 ∧ k1 ≤ IntKind.max .i64 := by simpa [Lit.wf] using w1
    have f1 : (-9223372036854775808 : Int) ≤ k1 ∧ k1 ≤ 9223372036854775807 := b1
    refine ⟨⟨k0, k1, r, a, b, c⟩, ?_, f0.1, f0.2, f1, i0, i1, i2⟩
    unfold rawAL
    dsimp only
    rw [← hr]
    rfl
set_option maxRecDepth 100000 in
theorem open_rawas {fuel : Nat} {cs : List Value} {x : DataW H × List MemPlace} (h : DataW.trod enc Try.prog w base spare held fuel 65 cs = some x) :
    ∃ a len cap rs, cs = [.slice a len cap] ∧ len = rs.length ∧ RawAsAt w a rs ∧ rs.length ≤ 9223372036854775807 := by
  have hC : Try.prog.cellsOf 67 = 17 := by kernel_rfl
  rcases open_slice Try.underlying65 h with ⟨h0, _⟩ | ⟨a, len, cap, m, n, D, Pl, hcs, hb, hl, hm, hmm, hx, hi⟩
  · exact ⟨none, 0, 0, [], h0, rfl, .inl rfl, by simp⟩
  · by_cases h0 : len = 0
    · subst h0
      exact ⟨some a, 0, cap, [], hcs, rfl, .inl rfl, by simp⟩
    have hlm : len ≤ m := by rw [hmm]; split <;> omega
    have hcells : ∀ i, i < len → ∃ r : RawA, r.In ∧ ∀ j v, (rawAL r)[j]? = some v → w.cell? ((a.add (i * 17)).add j) = some v := by
      intro i hil
      obtain ⟨cs', hc, ht'⟩ := hi i (by omega)
      rw [hC] at hc
      obtain ⟨_, hcl, hat⟩ := World.cells?_some hc
      obtain ⟨v0, v1, v2, v3, v4, v5, v6, v7, v8, v9, v10, v11, v12, v13, v14, v15, v16, rfl⟩ := seventeen cs' hcl
      obtain ⟨r, hrr, hr⟩ := open_rawa ht'
      refine ⟨r, hr, fun j v hj => ?_⟩
      rw [← hrr] at hj
      have hj4 : j < 17 := by simpa using (List.getElem?_eq_some_iff.1 hj).1
      rw [hat j hj4]
      exact hj
    obtain ⟨r0, _, hr0⟩ := hcells 0 (by omega)
    have ha : ∃ b off, a = ⟨b, off, none⟩ := by
      have h00 := hr0 0 _ rfl
      rw [show (a.add (0 * 17)).add 0 = a.add 0 from by simp [Addr.add]] at h00
      exact plain_addr 0 h00 rfl
    obtain ⟨b, off, rfl⟩ := ha
    obtain ⟨rs, hrl, hrs⟩ := list_of_each len (fun i r => RawAAt w b (off + i * 17) r) (fun i hil => by
      obtain ⟨r, hr, hc⟩ := hcells i hil
      refine ⟨r, fun j v hj => ?_, hr⟩
      have := hc j v hj
      rwa [add_plain', add_plain'] at this)
    unfold maxLen at hm
    exact ⟨_, len, cap, rs, hcs, hrl.symm, .inr ⟨b, off, rfl, hrs⟩, by omega⟩
end
end Go.Proofs.Ytghimladdioajaa
namespace Go.Proofs.Ytghimladdioajaa
open Go Go.RowKit
set_option linter.unusedVariables false
set_option linter.unusedSimpArgs false
set_option maxRecDepth 100000
theorem rcut_end {w W0 w8 : World} {V : Value} {us : List Tm} (hr : DocRow w8 (w.heap.size + 2) V us) (hb8 : Below W0.heap.size W0 w8) (hb0 : Below w.heap.size w W0) (hsz : w.heap.size + 2 ≤ W0.heap.size) (v v1 v2 : Value) :
    DocRow (((w8.setCell ⟨w.heap.size, 1, none⟩ v).setCell ⟨w.heap.size + 1, 0, none⟩ v1).setCell ⟨w.heap.size + 1, 1, none⟩ v2) 0 V us ∧ Below w.heap.size w (((w8.setCell ⟨w.heap.size, 1, none⟩ v).setCell ⟨w.heap.size + 1, 0, none⟩ v1).setCell ⟨w.heap.size + 1, 1, none⟩ v2) := by
  refine ⟨(((hr.set_far (p := ⟨w.heap.size, 1, none⟩) (by show w.heap.size < _; omega) v).set_far (p := ⟨w.heap.size + 1, 0, none⟩) (by show w.heap.size + 1 < _; omega) v1).set_far (p := ⟨w.heap.size + 1, 1, none⟩) (by show w.heap.size + 1 < _; omega) v2).base (Nat.zero_le _), ?_⟩
  exact (((hb0.trans (hb8.mono hb0.size)).setCell (p := ⟨w.heap.size, 1, none⟩) (Nat.le_refl _) _).setCell (p := ⟨w.heap.size + 1, 0, none⟩) (by show _ ≤ w.heap.size + 1; omega) _).setCell (p := ⟨w.heap.size + 1, 1, none⟩) (by show _ ≤ w.heap.size + 1; omega) _
theorem rcut_same {w W0 : World} {V : Value} {us : List Tm} (hr : DocRow w 0 V us) (hb0 : Below w.heap.size w W0) (v1 v2 : Value) :
    DocRow ((W0.setCell ⟨w.heap.size + 1, 0, none⟩ v1).setCell ⟨w.heap.size + 1, 1, none⟩ v2) 0 V us ∧ Below w.heap.size w ((W0.setCell ⟨w.heap.size + 1, 0, none⟩ v1).setCell ⟨w.heap.size + 1, 1, none⟩ v2) := by
  have hb : Below w.heap.size w ((W0.setCell ⟨w.heap.size + 1, 0, none⟩ v1).setCell ⟨w.heap.size + 1, 1, none⟩ v2) := (hb0.setCell (p := ⟨w.heap.size + 1, 0, none⟩) (by show _ ≤ w.heap.size + 1; omega) _).setCell (p := ⟨w.heap.size + 1, 1, none⟩) (by show _ ≤ w.heap.size + 1; omega) _
  exact ⟨hr.below hb, hb⟩
set_option maxHeartbeats 1600000 in
theorem rcut_any (room : Int) (V : Value) (ts : List Tm) (n : Int) (w : World) (h : DocRow w 0 V ts) (hl : ts.length ≤ 100000) :
    Calls Try.prog 30 #[.agg #[.int .i64 room, V], .int .i64 n] w fun e w' => ∃ V', e = .returned (.tuple #[.agg #[.int .i64 room, V'], .int .i64 ((ts.length : Int) - leftT n ts)]) ∧ DocRow w' 0 V' (ts.take (leftT n ts)) ∧ Below w.heap.size w w' := by
  obtain ⟨a, cap, rfl⟩ := h.form
  obtain ⟨W0, hW0⟩ : ∃ W0, W0 = (w.alloc (.cells #[.int .i64 room, .slice a ts.length cap] 29)).alloc (.cells #[.int .i64 0, .slice none 0 0] 29) := ⟨_, rfl⟩
  have hbw : Below w.heap.size w W0 := by rw [hW0]; go_grown
  have hbx : W0.heap[w.heap.size]? = some (.cells #[.int .i64 room, .slice a ts.length cap] 29 (0, 0)) := by rw [hW0]; exact box_alloc (box_new _ _ _)
  have hby : W0.heap[w.heap.size + 1]? = some (.cells #[.int .i64 0, .slice none 0 0] 29 (0, 0)) := by
    rw [hW0]
    have := box_new (w.alloc (.cells #[.int .i64 room, .slice a ts.length cap] 29)) #[.int .i64 0, .slice none 0 0] 29
    simpa using this
  have hsz : W0.heap.size = w.heap.size + 2 := by rw [hW0]; simp
  have HH := Lib.hid (⟨hbw, hbx, hby⟩ : _ ∧ _ ∧ _)
  have HW0 := Lib.hid hW0
  have HSZ := Lib.hid hsz
  have HR := Lib.hid h
  have HL := Lib.hid hl
  obtain ⟨j, hj⟩ : ∃ j, j = leftT n ts := ⟨_, rfl⟩
  have hjv : (j : Int) = min (max n 0) (ts.length : Int) := by rw [hj]; unfold leftT; omega
  by_cases hmany : j < ts.length
  · have hpos : 0 < ts.length := by omega
    obtain ⟨g, cap1, hv, hb0, hg, -⟩ := RowOf.at_ refC_len h 0 hpos
    obtain ⟨rfl, hc1⟩ : a = some ⟨g, 0, none⟩ ∧ cap = cap1 := by injection hv with h1 h2 h3; exact ⟨h1, h3⟩
    subst hc1
    have HTK := Lib.hid ((RowOf.take refC_len h j (by omega)).below hbw)
    obtain ⟨a2, cap2, hv2, hcap⟩ := h.form_cap
    have hcap' : ts.length ≤ cap := by injection hv2 with _ _ h3; omega
    have hjl : (ts.take j).length = j := by rw [List.length_take]; omega
    have b1 : (0 : Int) ≤ (j : Int) := by omega
    have b2 : (j : Int) ≤ (cap : Int) := by omega
    rw [← hj]
    have HJ := Lib.hid (⟨hj, hjl, hmany⟩ : _ ∧ _ ∧ _)
    have HE : Hid (DocRow (W0.alloc (.cells #[] 31)) (w.heap.size + 2) (.slice (some ⟨w.heap.size + 2, 0, none⟩) 0 0) []) := Lib.hid (by
      have : DocRow (W0.alloc (.cells #[] 31)) W0.heap.size (.slice (some ⟨W0.heap.size, 0, none⟩) 0 0) [] := RowOf.new refC_len W0 ([] : List Tm) (by simp)
      rw [hsz] at this
      exact this)
    by_cases hn : n < 0
    · have hj0 : j = 0 := by omega
      have t1 : decide (n < 0) = true := decide_eq_true hn
      have t2 : decide (ts = []) = false := decide_eq_false (by rintro rfl; simp at hpos)
      have HN0 := Lib.hid hj0
      subst hj0
      clear hbw hbx hby hW0 hsz h hl hj hjv hmany hpos hv hb0 hg hv2 hcap hcap' hjl hn
      have HN8 : Hid (([] ++ ts.take 0).length = 0) := Lib.hid (by rw [List.nil_append]; exact HJ.out.2.1)
      go_enter Try.func30, Try.ntmps30
      go_wp2_with (at_builtin; rw [← HW0.out]; go_loud (refine wpList_append_rows eltR _ rfl (.tmp 20) (.tmp 24) rfl (w.heap.size + 2) 0 (.slice (some ⟨w.heap.size + 2, 0, none⟩) 0 0) (.slice (some ⟨g, 0, none⟩) 0 cap) [] (ts.take 0) rfl rfl HE.out (HTK.out.below ((Below.refl _ _).alloc (Nat.le_refl _) _)) (by have := HL.out; simp only [List.length_nil, List.length_take]; omega) (by have := HSZ.out; have h4 : (W0.alloc (.cells #[] 31)).heap.size = W0.heap.size + 1 := (by simp); omega) ?_); intro V8 w8 r8 q8 at8; have g8 : Below W0.heap.size W0 w8 := ((Below.refl W0.heap.size W0).alloc (Nat.le_refl _) _).grown q8 (by simp) (by have := HSZ.out; simp [Value.ownBlock] <;> omega); obtain ⟨a8, c8, hv8⟩ := r8.form; rw [HN8.out] at hv8; subst hv8; have G8 := Lib.hid (⟨g8, r8⟩ : _ ∧ _); obtain ⟨z0, z1, z2, z3⟩ := cells2 (box_below HH.out.2.1 g8); obtain ⟨y0, y1, y2, y3⟩ := cells2 (box_below HH.out.2.2 g8))
      have hwr : wrap64 ((ts.length : Int) - 0) = (ts.length : Int) - 0 := IntWalk.wrap64_in _ (by have := HL.out; have := HJ.out.2.2; omega)
      try simp only [Int.sub_zero] at hwr
      simp only [hwr]
      refine bodyPost_ret (v := .tuple #[.agg #[.int .i64 room, .slice a8 0 c8], .int .i64 ((ts.length : Int) - 0)]) (by simp [results, Try.results30, go_sem, y0, y1]) rfl ?_
      have h5 := rcut_end (W0 := W0) (G8.out.2.base (b' := w.heap.size + 2) (Nat.le_refl _)) G8.out.1 HH.out.1 (by have := HSZ.out; omega) (.slice a8 0 c8) (.int .i64 room) (.slice a8 0 c8)
      exact ⟨_, rfl, h5.1, h5.2⟩
    · have hjn : n = (j : Int) := by omega
      subst hjn
      have t1 : decide ((j : Int) < 0) = false := decide_eq_false hn
      have t2 : decide (ts.length ≤ j) = false := decide_eq_false (by omega)
      clear hbw hbx hby hW0 hsz h hl hj hjv hmany hpos hv hb0 hg hv2 hcap hcap' hjl hn
      have HN8 : Hid (([] ++ ts.take j).length = j) := Lib.hid (by rw [List.nil_append]; exact HJ.out.2.1)
      go_enter Try.func30, Try.ntmps30
      go_wp2_with (at_builtin; rw [← HW0.out]; go_loud (refine wpList_append_rows eltR _ rfl (.tmp 20) (.tmp 24) rfl (w.heap.size + 2) 0 (.slice (some ⟨w.heap.size + 2, 0, none⟩) 0 0) (.slice (some ⟨g, 0, none⟩) j cap) [] (ts.take j) rfl rfl HE.out (HTK.out.below ((Below.refl _ _).alloc (Nat.le_refl _) _)) (by have := HL.out; simp only [List.length_nil, List.length_take]; omega) (by have := HSZ.out; have h4 : (W0.alloc (.cells #[] 31)).heap.size = W0.heap.size + 1 := (by simp); omega) ?_); intro V8 w8 r8 q8 at8; have g8 : Below W0.heap.size W0 w8 := ((Below.refl W0.heap.size W0).alloc (Nat.le_refl _) _).grown q8 (by simp) (by have := HSZ.out; simp [Value.ownBlock] <;> omega); obtain ⟨a8, c8, hv8⟩ := r8.form; rw [HN8.out] at hv8; subst hv8; have G8 := Lib.hid (⟨g8, r8⟩ : _ ∧ _); obtain ⟨z0, z1, z2, z3⟩ := cells2 (box_below HH.out.2.1 g8); obtain ⟨y0, y1, y2, y3⟩ := cells2 (box_below HH.out.2.2 g8))
      have hwr : wrap64 ((ts.length : Int) - (j : Int)) = (ts.length : Int) - (j : Int) := IntWalk.wrap64_in _ (by have := HL.out; have := HJ.out.2.2; omega)
      try simp only [Int.sub_zero] at hwr
      simp only [hwr]
      refine bodyPost_ret (v := .tuple #[.agg #[.int .i64 room, .slice a8 j c8], .int .i64 ((ts.length : Int) - (j : Int))]) (by simp [results, Try.results30, go_sem, y0, y1]) rfl ?_
      have h5 := rcut_end (W0 := W0) (G8.out.2.base (b' := w.heap.size + 2) (Nat.le_refl _)) G8.out.1 HH.out.1 (by have := HSZ.out; omega) (.slice a8 j c8) (.int .i64 room) (.slice a8 j c8)
      exact ⟨_, rfl, h5.1, h5.2⟩
  · have hje : j = ts.length := by omega
    have HJ := Lib.hid (⟨hj.symm.trans hje, hje⟩ : leftT n ts = ts.length ∧ _)
    by_cases hn : n < 0
    · have t1 : decide (n < 0) = true := decide_eq_true hn
      have t2 : decide ((0 : Int) ≥ (ts.length : Int)) = true := decide_eq_true (by omega)
      obtain rfl : ts = [] := List.eq_nil_of_length_eq_zero (by omega)
      clear hbw hbx hby hW0 hsz h hl hj hjv hmany hn hje
      go_enter Try.func30, Try.ntmps30
      go_wp2_with fail
      refine bodyPost_ret (v := .tuple #[.agg #[.int .i64 room, .slice a 0 cap], .int .i64 0]) (by simp [results, Try.results30, go_sem]) rfl ?_
      exact ⟨.slice a 0 cap, by rw [HJ.out.1]; simp, by rw [HJ.out.1, List.take_length]; exact HR.out.below (by go_grown), by go_grown⟩
    · have t1 : decide (n < 0) = false := decide_eq_false hn
      have t2 : decide ((ts.length : Int) ≤ n) = true := decide_eq_true (by omega)
      clear hbw hbx hby hW0 hsz h hl hj hjv hmany hn hje
      go_enter Try.func30, Try.ntmps30
      go_wp2_with fail
      refine bodyPost_ret (v := .tuple #[.agg #[.int .i64 room, .slice a ts.length cap], .int .i64 0]) (by simp [results, Try.results30, go_sem]) rfl ?_
      exact ⟨.slice a ts.length cap, by rw [HJ.out.1]; simp, by rw [HJ.out.1, List.take_length]; exact HR.out.below (by go_grown), by go_grown⟩
end Go.Proofs.Ytghimladdioajaa
namespace Go.Proofs.Ytghimladdioajaa
open Go Go.RowKit
set_option linter.unusedVariables false
set_option linter.unusedSimpArgs false
set_option maxRecDepth 100000
theorem set_any {w : World} {b i : Nat} {cs : Array Value} {T : TypeId} (h : w.heap[b]? = some (.cells cs T (0, 0))) (v : Value) : (w.setCell ⟨b, i, none⟩ v).heap[b]? = some (.cells (cs.setIfInBounds i v) T (0, 0)) := by
  have hlt := lt_heap h
  have h' : w.heap[b] = .cells cs T (0, 0) := by simpa [Array.getElem?_eq_getElem hlt] using h
  show (w.heap.modify b _)[b]? = _
  rw [Array.getElem?_eq_getElem (by simpa using hlt), Array.getElem_modify_self, h']
  rfl
/-- the blocks of the document's Key, in its rounds -/
def KRS (w : World) (room : Int) (t : Tri) (V : Value) (o : Nat) (T : List Tm) (V' : Value) (n0 n1 n2 : Int) (wr : World) : Prop :=
  wr.heap[w.heap.size]? = some (.cells #[.int .i64 room, V'] 29 (0, 0)) ∧ DocRow wr 0 V' T ∧ wr.heap[w.heap.size + 1 + 1]? = some (.cells #[.int .i64 0, .slice none 0 0] 29 (0, 0)) ∧ wr.heap[w.heap.size + 1 + 1 + 1]? = some (.cells #[.int .i64 0, .int .i64 0, .int .i64 0] 53 (0, 0)) ∧
    wr.heap[o]? = some (.cells #[.int .i64 room, V] 29 (0, 0)) ∧ wr.heap[o + 1]? = some (.cells #[.int .i64 n0, .int .i64 n1, .int .i64 n2] 53 (0, 0)) ∧ wr.heap[o + 1 + 1]? = some (.cells #[.int .i64 (kindV t.s), .string (text0 t.s), .string (text1 t.s), .string (text2 t.s), .int .i64 (kindV t.p), .string (text0 t.p), .string (text1 t.p), .string (text2 t.p), .int .i64 (kindV t.o), .string (text0 t.o), .string (text1 t.o), .string (text2 t.o)] 98 (0, 0)) ∧
    Below w.heap.size w wr ∧ w.heap.size + 4 ≤ o
section
variable {w wr wr' : World} {room : Int} {t : Tri} {V V' V2 : Value} {o : Nat} {T T2 : List Tm} {n0 n1 n2 : Int}
theorem KRS.below (h : KRS w room t V o T V' n0 n1 n2 wr) (hb : Below wr.heap.size wr wr') : KRS w room t V o T V' n0 n1 n2 wr' := by
  obtain ⟨h1, h2, h3, h4, h5, h6, h7, h8, h9⟩ := h
  exact ⟨box_below h1 hb, h2.below hb, box_below h3 hb, box_below h4 hb, box_below h5 hb, box_below h6 hb, box_below h7 hb, h8.trans (hb.mono h8.size), h9⟩
theorem KRS.bel (h : KRS w room t V o T V' n0 n1 n2 wr) : Below w.heap.size w wr := h.2.2.2.2.2.2.2.1
theorem KRS.lt (h : KRS w room t V o T V' n0 n1 n2 wr) : o + 1 + 1 < wr.heap.size := lt_heap h.2.2.2.2.2.2.1
theorem KRS.put (h : KRS w room t V o T V' n0 n1 n2 wr) (hr : DocRow wr 0 V2 T2) : KRS w room t V o T2 V2 n0 n1 n2 ((wr.setCell ⟨w.heap.size, 0, none⟩ (.int .i64 room)).setCell ⟨w.heap.size, 1, none⟩ V2) := by
  obtain ⟨h1, h2, h3, h4, h5, h6, h7, h8, h9⟩ := h
  have s1 := set_any (i := 0) h1 (.int .i64 room)
  have far : ∀ {b : Nat} {x : Obj}, b ≠ w.heap.size → wr.heap[b]? = some x → ((wr.setCell ⟨w.heap.size, 0, none⟩ (.int .i64 room)).setCell ⟨w.heap.size, 1, none⟩ V2).heap[b]? = some x := fun hne hb => box_other (box_other hb hne) hne
  exact ⟨box_set2 h1 _ _, (hr.set_other h1 (by decide) _).set_other s1 (by decide) _, far (by omega) h3, far (by omega) h4, far (by omega) h5, far (by omega) h6, far (by omega) h7, (h8.setCell (p := ⟨w.heap.size, 0, none⟩) (Nat.le_refl _) _).setCell (p := ⟨w.heap.size, 1, none⟩) (Nat.le_refl _) _, h9⟩
theorem KRS.num (h : KRS w room t V o T V' n0 n1 n2 wr) (i : Nat) (m0 m1 m2 n : Int) (he : (#[.int .i64 n0, .int .i64 n1, .int .i64 n2] : Array Value).setIfInBounds i (.int .i64 n) = #[.int .i64 m0, .int .i64 m1, .int .i64 m2]) : KRS w room t V o T V' m0 m1 m2 (wr.setCell ⟨o + 1, i, none⟩ (.int .i64 n)) := by
  obtain ⟨h1, h2, h3, h4, h5, h6, h7, h8, h9⟩ := h
  have far : ∀ {b : Nat} {x : Obj}, b ≠ o + 1 → wr.heap[b]? = some x → (wr.setCell ⟨o + 1, i, none⟩ (.int .i64 n)).heap[b]? = some x := fun hne hb => box_other hb hne
  refine ⟨far (by omega) h1, h2.set_other h6 (by decide) _, far (by omega) h3, far (by omega) h4, far (by omega) h5, ?_, far (by omega) h7, h8.setCell (p := ⟨o + 1, i, none⟩) (by show w.heap.size ≤ o + 1; omega) _, h9⟩
  rw [set_any h6, he]
theorem KRS.fin {us : List Tm} {U : Value} (h : KRS w room t V o T V' n0 n1 n2 wr) (hr : DocRow wr 0 U us) (v0 v1 v2 v3 v4 : Value) : DocRow (((((wr.setCell ⟨w.heap.size + 1 + 1, 0, none⟩ v0).setCell ⟨w.heap.size + 1 + 1, 1, none⟩ v1).setCell ⟨w.heap.size + 1 + 1 + 1, 0, none⟩ v2).setCell ⟨w.heap.size + 1 + 1 + 1, 1, none⟩ v3).setCell ⟨w.heap.size + 1 + 1 + 1, 2, none⟩ v4) 0 U us ∧
    Below w.heap.size w (((((wr.setCell ⟨w.heap.size + 1 + 1, 0, none⟩ v0).setCell ⟨w.heap.size + 1 + 1, 1, none⟩ v1).setCell ⟨w.heap.size + 1 + 1 + 1, 0, none⟩ v2).setCell ⟨w.heap.size + 1 + 1 + 1, 1, none⟩ v3).setCell ⟨w.heap.size + 1 + 1 + 1, 2, none⟩ v4) := by
  obtain ⟨h1, h2, h3, h4, h5, h6, h7, h8, h9⟩ := h
  have s1 := set_any (i := 0) h3 v0
  have s2 : ((wr.setCell ⟨w.heap.size + 1 + 1, 0, none⟩ v0).setCell ⟨w.heap.size + 1 + 1, 1, none⟩ v1).heap[w.heap.size + 1 + 1 + 1]? = _ := box_other (box_other h4 (by show w.heap.size + 1 + 1 + 1 ≠ w.heap.size + 1 + 1; omega)) (by show w.heap.size + 1 + 1 + 1 ≠ w.heap.size + 1 + 1; omega)
  have s3 := set_any (i := 0) s2 v2
  have s4 := set_any (i := 1) s3 v3
  refine ⟨((((hr.set_other h3 (by decide) _).set_other s1 (by decide) _).set_other s2 (by decide) _).set_other s3 (by decide) _).set_other s4 (by decide) _, ?_⟩
  exact ((((h8.setCell (p := ⟨w.heap.size + 1 + 1, 0, none⟩) (by show w.heap.size ≤ w.heap.size + 1 + 1; omega) _).setCell (p := ⟨w.heap.size + 1 + 1, 1, none⟩) (by show w.heap.size ≤ w.heap.size + 1 + 1; omega) _).setCell (p := ⟨w.heap.size + 1 + 1 + 1, 0, none⟩) (by show w.heap.size ≤ w.heap.size + 1 + 1 + 1; omega) _).setCell (p := ⟨w.heap.size + 1 + 1 + 1, 1, none⟩) (by show w.heap.size ≤ w.heap.size + 1 + 1 + 1; omega) _).setCell (p := ⟨w.heap.size + 1 + 1 + 1, 2, none⟩) (by show w.heap.size ≤ w.heap.size + 1 + 1 + 1; omega) _
end
/-- what the law of the document's Key tells -/
def RKeyEnd (G : Tm → Bool) (room : Int) (ts : List Tm) (t : Tri) (w : World) (e : Ending) (w' : World) : Prop :=
  ∃ V', e = .returned (.tuple #[.agg #[.int .i64 room, V'], .agg #[.int .i64 (keyT G room ts t).2.1.1, .int .i64 (keyT G room ts t).2.1.2.1, .int .i64 (keyT G room ts t).2.1.2.2], .int .i64 (keyT G room ts t).2.2]) ∧ DocRow w' 0 V' (keyT G room ts t).1 ∧ Below w.heap.size w w'
theorem drew_box {w : World} {b : Nat} {o : Obj} (h : w.heap[b]? = some o) : w.drew.heap[b]? = some o := h
theorem keptb {w w' : World} {b c : Nat} {o1 o2 : Obj} (h : w.heap[b]? = some o1 ∧ w.heap[c]? = some o2) (hb : Below w.heap.size w w') : w'.heap[b]? = some o1 ∧ w'.heap[c]? = some o2 := ⟨boxb h.1 hb, boxb h.2 hb⟩
theorem putT_keys {G : Tm → Bool} {room : Int} {ts : List Tm} {x : Tm} (h : ∀ k ∈ ts, KeyT k) (hx : KeyT x) : ∀ k ∈ (putT G room ts x).1, KeyT k := by
  unfold putT
  repeat' split
  all_goals first
    | exact h
    | (intro k hk
       rcases List.mem_append.1 hk with hk | hk
       · exact h k hk
       · rw [List.mem_singleton] at hk
         rw [hk]
         exact hx)
set_option maxHeartbeats 6400000 in
theorem rkey_any {G : Tm → Bool} (hG : GoodFn G) (room : Int) (V : Value) (ts : List Tm) (t : Tri) (w : World) (h : DocRow w 0 V ts) (hk : KeyTri t) (hz : SmallTri t) (hf : ∀ k ∈ ts, KeyT k) (hl : ts.length ≤ 90000) :
    Calls Try.prog 28 #[.agg #[.int .i64 room, V], rtriV t] w (RKeyEnd G room ts t w) := by
  obtain ⟨a0, cap, rfl⟩ := h.form
  have HGA := Lib.hid (fun w => rgood3_any hG t hz w)
  have HR := Lib.hid h
  obtain ⟨W0, hW0⟩ : ∃ W0, W0 = (((w.alloc (.cells #[.int .i64 room, .slice a0 ts.length cap] 29)).alloc (.cells #[.int .i64 (kindV t.s), .string (text0 t.s), .string (text1 t.s), .string (text2 t.s), .int .i64 (kindV t.p), .string (text0 t.p), .string (text1 t.p), .string (text2 t.p), .int .i64 (kindV t.o), .string (text0 t.o), .string (text1 t.o), .string (text2 t.o)] 51)).alloc (.cells #[.int .i64 0, .slice none 0 0] 29)).alloc (.cells #[.int .i64 0, .int .i64 0, .int .i64 0] 53) := ⟨_, rfl⟩
  have hbw : Below w.heap.size w W0 := by rw [hW0]; go_grown
  have hsz : W0.heap.size = w.heap.size + 4 := by rw [hW0]; simp
  have hb0 : W0.heap[w.heap.size]? = some (.cells #[.int .i64 room, .slice a0 ts.length cap] 29 (0, 0)) := by rw [hW0]; exact box_alloc (box_alloc (box_alloc (box_new _ _ _)))
  have hb1 : W0.heap[w.heap.size + 1]? = some (.cells #[.int .i64 (kindV t.s), .string (text0 t.s), .string (text1 t.s), .string (text2 t.s), .int .i64 (kindV t.p), .string (text0 t.p), .string (text1 t.p), .string (text2 t.p), .int .i64 (kindV t.o), .string (text0 t.o), .string (text1 t.o), .string (text2 t.o)] 51 (0, 0)) := by
    rw [hW0]
    have := box_new (w.alloc (.cells #[.int .i64 room, .slice a0 ts.length cap] 29)) #[.int .i64 (kindV t.s), .string (text0 t.s), .string (text1 t.s), .string (text2 t.s), .int .i64 (kindV t.p), .string (text0 t.p), .string (text1 t.p), .string (text2 t.p), .int .i64 (kindV t.o), .string (text0 t.o), .string (text1 t.o), .string (text2 t.o)] 51
    exact box_alloc (box_alloc (by simpa using this))
  have hb2 : W0.heap[w.heap.size + 1 + 1]? = some (.cells #[.int .i64 0, .slice none 0 0] 29 (0, 0)) := by
    rw [hW0]
    have := box_new ((w.alloc (.cells #[.int .i64 room, .slice a0 ts.length cap] 29)).alloc (.cells #[.int .i64 (kindV t.s), .string (text0 t.s), .string (text1 t.s), .string (text2 t.s), .int .i64 (kindV t.p), .string (text0 t.p), .string (text1 t.p), .string (text2 t.p), .int .i64 (kindV t.o), .string (text0 t.o), .string (text1 t.o), .string (text2 t.o)] 51)) #[.int .i64 0, .slice none 0 0] 29
    exact box_alloc (by simpa using this)
  have hb3 : W0.heap[w.heap.size + 1 + 1 + 1]? = some (.cells #[.int .i64 0, .int .i64 0, .int .i64 0] 53 (0, 0)) := by
    rw [hW0]
    have := box_new (((w.alloc (.cells #[.int .i64 room, .slice a0 ts.length cap] 29)).alloc (.cells #[.int .i64 (kindV t.s), .string (text0 t.s), .string (text1 t.s), .string (text2 t.s), .int .i64 (kindV t.p), .string (text0 t.p), .string (text1 t.p), .string (text2 t.p), .int .i64 (kindV t.o), .string (text0 t.o), .string (text1 t.o), .string (text2 t.o)] 51)).alloc (.cells #[.int .i64 0, .slice none 0 0] 29)) #[.int .i64 0, .int .i64 0, .int .i64 0] 53
    simpa using this
  have HH := Lib.hid (⟨hbw, hb0, hb1, hb2, hb3⟩ : _ ∧ _ ∧ _ ∧ _ ∧ _)
  have HW0 := Lib.hid hW0
  have HSZ := Lib.hid hsz
  obtain ⟨x0, x1, x2, x3⟩ := cells2 hb0
  obtain ⟨z0, z1, z2, z3, z4, z5, z6, z7, z8, z9, z10, z11⟩ := cells12 hb1
  cases hgd : goodTri G t with
  | false =>
    have HKT : Hid (keyT G room ts t = (ts, (0, 0, 0), 3)) := Lib.hid (by unfold keyT; rw [if_pos hgd])
    rw [hgd] at HGA
    unfold rtriV at HGA ⊢
    clear hgd hbw hb0 hb1 hb2 hb3 hW0 hsz h hk hz hf hl hG
    go_enter Try.func28, Try.ntmps28
    go_wp2_with fail
    rw [← HW0.out]
    go_wp2_with fail
    refine (HGA.out _).mono ?_
    rintro e w1 ⟨rfl, hb⟩
    have HB1 := Lib.hid hb
    obtain ⟨x0, x1, x2, x3⟩ := cells2 (box_below HH.out.2.1 hb)
    obtain ⟨y0, y1, y2, y3⟩ := cells2 (box_below HH.out.2.2.2.1 hb)
    obtain ⟨u0, u1, u2, u3⟩ := cells3 (box_below HH.out.2.2.2.2 hb)
    obtain ⟨u4, u5⟩ := froz3 (box_below HH.out.2.2.2.2 hb)
    clear hb z0 z1 z2 z3 z4 z5 z6 z7 z8 z9 z10 z11
    go_wp2_with fail
    refine bodyPost_ret (v := .tuple #[.agg #[.int .i64 room, .slice a0 ts.length cap], .agg #[.int .i64 0, .int .i64 0, .int .i64 0], .int .i64 3]) (by simp [results, Try.results28, go_sem, y0, y1, u0, u1, u2]) rfl ?_
    unfold RKeyEnd
    rw [HKT.out]
    have hbb : Below w.heap.size w w1 := HH.out.1.trans (HB1.out.mono HH.out.1.size)
    have h5 : Below w.heap.size w (((((w1.setCell ⟨w.heap.size + 1 + 1, 0, none⟩ (.int .i64 room)).setCell ⟨w.heap.size + 1 + 1, 1, none⟩ (.slice a0 ts.length cap)).setCell ⟨w.heap.size + 1 + 1 + 1, 0, none⟩ (.int .i64 0)).setCell ⟨w.heap.size + 1 + 1 + 1, 1, none⟩ (.int .i64 0)).setCell ⟨w.heap.size + 1 + 1 + 1, 2, none⟩ (.int .i64 0)) :=
      ((((hbb.setCell (p := ⟨w.heap.size + 1 + 1, 0, none⟩) (by show w.heap.size ≤ w.heap.size + 1 + 1; omega) _).setCell (p := ⟨w.heap.size + 1 + 1, 1, none⟩) (by show w.heap.size ≤ w.heap.size + 1 + 1; omega) _).setCell (p := ⟨w.heap.size + 1 + 1 + 1, 0, none⟩) (by show w.heap.size ≤ w.heap.size + 1 + 1 + 1; omega) _).setCell (p := ⟨w.heap.size + 1 + 1 + 1, 1, none⟩) (by show w.heap.size ≤ w.heap.size + 1 + 1 + 1; omega) _).setCell (p := ⟨w.heap.size + 1 + 1 + 1, 2, none⟩) (by show w.heap.size ≤ w.heap.size + 1 + 1 + 1; omega) _
    exact ⟨_, rfl, HR.out.below h5, h5⟩
  | true =>
    obtain ⟨T1, n0, c0, hp0⟩ : ∃ T n c, putT G room ts t.s = (T, n, c) := ⟨_, _, _, rfl⟩
    obtain ⟨T2, n1, c1, hp1⟩ : ∃ T n c, putT G room T1 t.p = (T, n, c) := ⟨_, _, _, rfl⟩
    obtain ⟨T3, n2, c2, hp2⟩ : ∃ T n c, putT G room T2 t.o = (T, n, c) := ⟨_, _, _, rfl⟩
    have HKE : Hid ((c0 ≠ 0 → keyT G room ts t = (ts, (0, 0, 0), c0)) ∧ (c0 = 0 → c1 ≠ 0 → keyT G room ts t = (ts, (0, 0, 0), c1)) ∧ (c0 = 0 → c1 = 0 → c2 ≠ 0 → keyT G room ts t = (ts, (0, 0, 0), c2)) ∧ (c0 = 0 → c1 = 0 → c2 = 0 → keyT G room ts t = (T3, (n0, n1, n2), 0))) := Lib.hid (by
      unfold keyT
      rw [if_neg (by simp [hgd]), hp0]
      dsimp only
      rw [hp1]
      dsimp only
      rw [hp2]
      dsimp only
      refine ⟨fun h0 => by rw [if_pos h0], fun h0 h1 => by rw [if_neg (by simp [h0]), if_pos h1], fun h0 h1 h2 => by rw [if_neg (by simp [h0]), if_neg (by simp [h1]), if_pos h2], fun h0 h1 h2 => by rw [if_neg (by simp [h0]), if_neg (by simp [h1]), if_neg (by simp [h2])]⟩)
    have HLEN : Hid ((∀ k ∈ T1, KeyT k) ∧ T1.length ≤ 100000 ∧ (∀ k ∈ T2, KeyT k) ∧ T2.length ≤ 100000) := Lib.hid (by
      have a1 := putT_len G room ts t.s
      have a2 := putT_keys (G := G) (room := room) hf hk.1
      rw [hp0] at a1 a2
      dsimp only at a1 a2
      have a3 := putT_len G room T1 t.p
      have a4 := putT_keys (G := G) (room := room) a2 hk.2.1
      rw [hp1] at a3 a4
      dsimp only at a3 a4
      exact ⟨a2, by omega, a4, by omega⟩)
    have HPU0 := Lib.hid (fun w1 V1 (h1 : DocRow w1 0 V1 ts) => rput_any hG room V1 ts t.s w1 h1 hz.1 hk.1 hf (by omega))
    have HPU1 := Lib.hid (fun w1 V1 (h1 : DocRow w1 0 V1 T1) => rput_any hG room V1 T1 t.p w1 h1 hz.2.1 hk.2.1 HLEN.out.1 HLEN.out.2.1)
    have HPU2 := Lib.hid (fun w1 V1 (h1 : DocRow w1 0 V1 T2) => rput_any hG room V1 T2 t.o w1 h1 hz.2.2 hk.2.2 HLEN.out.2.2.1 HLEN.out.2.2.2)
    unfold RPut at HPU0 HPU1 HPU2
    rw [hp0] at HPU0
    rw [hp1] at HPU1
    rw [hp2] at HPU2
    dsimp only at HPU0 HPU1 HPU2
    unfold refT at HPU0 HPU1 HPU2
    rw [hgd] at HGA
    unfold rtriV at HGA ⊢
    clear hgd hbw hb0 hb1 hb2 hb3 hW0 hsz h hk hz hf hl hG hp0 hp1 hp2
    go_enter Try.func28, Try.ntmps28
    go_wp2_with fail
    rw [← HW0.out]
    go_wp2_with fail
    refine (HGA.out _).mono ?_
    rintro e w1 ⟨rfl, hb⟩
    have HB1 := Lib.hid hb
    obtain ⟨x0, x1, x2, x3⟩ := cells2 (box_below HH.out.2.1 hb)
    obtain ⟨z0, z1, z2, z3, z4, z5, z6, z7, z8, z9, z10, z11⟩ := cells12 (box_below HH.out.2.2.1 hb)
    have hlt1 := lt_heap (box_below HH.out.2.2.1 hb)
    have hlt0 := lt_heap (box_below HH.out.2.1 hb)
    clear hb
    obtain ⟨o, ho⟩ : ∃ o, o = w1.heap.size := ⟨_, rfl⟩
    have HO := Lib.hid ho
    clear ho
    go_wp2_with fail
    rw [← HO.out]
    obtain ⟨W2, hW2⟩ : ∃ W2, W2 = ((w1.alloc (.cells #[.int .i64 room, .slice a0 ts.length cap] 29)).alloc (.cells #[.int .i64 0, .int .i64 0, .int .i64 0] 53)).alloc (.cells #[.int .i64 (kindV t.s), .string (text0 t.s), .string (text1 t.s), .string (text2 t.s), .int .i64 (kindV t.p), .string (text0 t.p), .string (text1 t.p), .string (text2 t.p), .int .i64 (kindV t.o), .string (text0 t.o), .string (text1 t.o), .string (text2 t.o)] 98) := ⟨_, rfl⟩
    rw [← hW2]
    have hks : KRS w room t (.slice a0 ts.length cap) o ts (.slice a0 ts.length cap) 0 0 0 W2 := by
      have g1 : Below w.heap.size w w1 := HH.out.1.trans (HB1.out.mono HH.out.1.size)
      have g2 : Below w1.heap.size w1 W2 := by rw [hW2]; exact (((Below.refl _ _).alloc (Nat.le_refl _) _).alloc (by simp) _).alloc (by simp; omega) _
      have e0 : W2.heap[w1.heap.size]? = some (.cells #[.int .i64 room, .slice a0 ts.length cap] 29 (0, 0)) := by rw [hW2]; exact box_alloc (box_alloc (box_new _ _ _))
      have e1 : W2.heap[w1.heap.size + 1]? = some (.cells #[.int .i64 0, .int .i64 0, .int .i64 0] 53 (0, 0)) := by
        rw [hW2]
        have := box_new (w1.alloc (.cells #[.int .i64 room, .slice a0 ts.length cap] 29)) #[.int .i64 0, .int .i64 0, .int .i64 0] 53
        exact box_alloc (by simpa using this)
      have e2 : W2.heap[w1.heap.size + 1 + 1]? = some (.cells #[.int .i64 (kindV t.s), .string (text0 t.s), .string (text1 t.s), .string (text2 t.s), .int .i64 (kindV t.p), .string (text0 t.p), .string (text1 t.p), .string (text2 t.p), .int .i64 (kindV t.o), .string (text0 t.o), .string (text1 t.o), .string (text2 t.o)] 98 (0, 0)) := by
        rw [hW2]
        have := box_new ((w1.alloc (.cells #[.int .i64 room, .slice a0 ts.length cap] 29)).alloc (.cells #[.int .i64 0, .int .i64 0, .int .i64 0] 53)) #[.int .i64 (kindV t.s), .string (text0 t.s), .string (text1 t.s), .string (text2 t.s), .int .i64 (kindV t.p), .string (text0 t.p), .string (text1 t.p), .string (text2 t.p), .int .i64 (kindV t.o), .string (text0 t.o), .string (text1 t.o), .string (text2 t.o)] 98
        simpa using this
      rw [HO.out]
      exact ⟨box_below (box_below HH.out.2.1 HB1.out) g2, HR.out.below (g1.trans (g2.mono g1.size)), box_below (box_below HH.out.2.2.2.1 HB1.out) g2, box_below (box_below HH.out.2.2.2.2 HB1.out) g2, e0, e1, e2, g1.trans (g2.mono g1.size), by have := HB1.out.size; have := HSZ.out; omega⟩
    have HKS := Lib.hid hks
    clear hks hW2 x0 x1 x2 x3 z0 z1 z2 z3 z4 z5 z6 z7 z8 z9 z10 z11 hlt0 hlt1
    go_loopw [28] (fun i wr => ∃ j : Nat, j ≤ 3 ∧ i = .int .i64 j ∧ Hid ((j = 0 → ∃ V, KRS w room t (.slice a0 ts.length cap) o ts V 0 0 0 wr) ∧ (j = 1 → c0 = 0 ∧ ∃ V, KRS w room t (.slice a0 ts.length cap) o T1 V n0 0 0 wr) ∧ (j = 2 → c0 = 0 ∧ c1 = 0 ∧ ∃ V, KRS w room t (.slice a0 ts.length cap) o T2 V n0 n1 0 wr) ∧ (j = 3 → c0 = 0 ∧ c1 = 0 ∧ c2 = 0 ∧ ∃ V, KRS w room t (.slice a0 ts.length cap) o T3 V n0 n1 n2 wr))) (fun i _ => 3 - (intOf i).toNat)
    case atStart => exact ⟨0, by omega, rfl, Lib.hid ⟨fun _ => ⟨_, HKS.out⟩, fun h => by omega, fun h => by omega, fun h => by omega⟩⟩
    case round =>
      obtain ⟨j, hj, rfl, hb⟩ := hrel
      rcases (by omega : j = 0 ∨ j = 1 ∨ j = 2 ∨ j = 3) with rfl | rfl | rfl | rfl
      · rw [show ((0 : Nat) : Int) = 0 from rfl]
        obtain ⟨V, hs⟩ := hb.out.1 rfl
        have HS := Lib.hid hs
        clear hb hs
        obtain ⟨bv, bc, rfl⟩ := HS.out.2.1.form
        have HX := Lib.hid (⟨HS.out.1, HS.out.2.2.2.2.2.2.1⟩ : _ ∧ _)
        go_wp2_with fail
        refine wp_region_held_drew (S := (fun w' => w'.heap[w.heap.size]? = some (.cells #[.int .i64 room, .slice bv (ts).length bc] 29 (0, 0)) ∧ w'.heap[o + 1 + 1]? = some (.cells #[.int .i64 (kindV t.s), .string (text0 t.s), .string (text1 t.s), .string (text2 t.s), .int .i64 (kindV t.p), .string (text0 t.p), .string (text1 t.p), .string (text2 t.p), .int .i64 (kindV t.o), .string (text0 t.o), .string (text1 t.o), .string (text2 t.o)] 98 (0, 0)))) (by kernel_rfl) ?hSput00 (fun hHeld => ?_)
        case hSput00 => exact HX.out
        refine wpAnyH_take (i := 0) (oi := ⟨some 32, _, _, _, _, _⟩) (v := ?vput00) rfl (by kernel_rfl) (by kernel_rfl) (by kernel_rfl) (fun _ _ _ h => h) (Or.inl ⟨by kernel_rfl, ?yput00⟩) (by assumption) ?rput00
        case yput00 =>
          intro w hSw
          try dsimp only at hSw
          obtain ⟨c0, c1, c2, c3⟩ := cells2 hSw.1; obtain ⟨z0, z1, z2, z3, z4, z5, z6, z7, z8, z9, z10, z11⟩ := cells12 hSw.2
          first | (go_simp; done) | (go_simp; with_reducible rfl)
        try simp only [Act.put, List.setIfInBounds_toArray, List.set_cons_zero, List.set_cons_succ]
        refine wpAnyH_take (i := 1) (oi := ⟨some 33, _, _, _, _, _⟩) (v := ?vput01) rfl (by kernel_rfl) (by kernel_rfl) (by kernel_rfl) (fun _ _ _ h => h) (Or.inl ⟨by kernel_rfl, ?yput01⟩) (by assumption) ?rput01
        case yput01 =>
          intro w hSw
          try dsimp only at hSw
          obtain ⟨c0, c1, c2, c3⟩ := cells2 hSw.1; obtain ⟨z0, z1, z2, z3, z4, z5, z6, z7, z8, z9, z10, z11⟩ := cells12 hSw.2
          first | (go_simp; done) | (go_simp; with_reducible rfl)
        try simp only [Act.put, List.setIfInBounds_toArray, List.set_cons_zero, List.set_cons_succ]
        refine wpAnyH_take (i := 2) (oi := ⟨some 34, _, _, _, _, _⟩) (v := ?vput02) rfl (by kernel_rfl) (by kernel_rfl) (by kernel_rfl) (fun _ _ _ h => h) (Or.inl ⟨by kernel_rfl, ?yput02⟩) (by assumption) ?rput02
        case yput02 =>
          intro w hSw
          try dsimp only at hSw
          obtain ⟨c0, c1, c2, c3⟩ := cells2 hSw.1; obtain ⟨z0, z1, z2, z3, z4, z5, z6, z7, z8, z9, z10, z11⟩ := cells12 hSw.2
          first | (go_simp; done) | (go_simp; with_reducible rfl)
        try simp only [Act.put, List.setIfInBounds_toArray, List.set_cons_zero, List.set_cons_succ]
        refine wpAnyH_take (i := 3) (oi := ⟨some 35, _, _, _, _, _⟩) (v := ?vput03) rfl (by kernel_rfl) (by kernel_rfl) (by kernel_rfl) (fun _ _ _ h => h) (Or.inl ⟨by kernel_rfl, ?yput03⟩) (by assumption) ?rput03
        case yput03 =>
          intro w hSw
          try dsimp only at hSw
          obtain ⟨c0, c1, c2, c3⟩ := cells2 hSw.1; obtain ⟨z0, z1, z2, z3, z4, z5, z6, z7, z8, z9, z10, z11⟩ := cells12 hSw.2
          first | (go_simp; done) | (go_simp; with_reducible rfl)
        try simp only [Act.put, List.setIfInBounds_toArray, List.set_cons_zero, List.set_cons_succ]
        refine wpAnyH_ready (rs := [4, 9]) (by kernel_rfl) (by simp) ?_
        refine AllReadyH.cons (i := 4) (o := ⟨some 36, _, _, _, _, _⟩) rfl (fun K hK => ?bput04) (AllReadyH.cons (i := 9) (o := ⟨some 11, _, _, _, _, _⟩) rfl (fun K hK => ?bput09) (AllReadyH.nil))
        case' bput04 =>
          go_simp
          refine (HPU0.out _ _ (HS.out.2.1.below (Below.refl _ _).drew)).mono ?_
          rintro e w5 ⟨V5, rfl, hr5, hb5⟩
          obtain ⟨a5, k5, rfl⟩ := hr5.form
          have G5 := Lib.hid (⟨hr5, (Below.refl _ wr).drew.trans hb5⟩ : _ ∧ _)
          go_wp2_with fail
          refine hK.out _ _ ?_ (fun hHeld => ?_)
          · exact keptb (by assumption) hb5
          clear hK K
          try simp only [Act.put, List.setIfInBounds_toArray, List.set_cons_zero, List.set_cons_succ]
          refine wpAnyH_take (i := 5) (oi := ⟨some 31, _, _, _, _, _⟩) (v := ?vput0p45) rfl (by kernel_rfl) (by kernel_rfl) (by kernel_rfl) (fun _ _ _ h => h) (Or.inl ⟨by kernel_rfl, ?yput0p45⟩) (by assumption) ?rput0p45
          case yput0p45 =>
            intro w hSw
            try dsimp only at hSw
            obtain ⟨c0, c1, c2, c3⟩ := cells2 hSw.1; obtain ⟨z0, z1, z2, z3, z4, z5, z6, z7, z8, z9, z10, z11⟩ := cells12 hSw.2
            first | (go_simp; done) | (go_simp; with_reducible rfl)
          try simp only [Act.put, List.setIfInBounds_toArray, List.set_cons_zero, List.set_cons_succ]
          refine wpAnyH_take (i := 6) (oi := ⟨some 37, _, _, _, _, _⟩) (v := ?vput0p46) rfl (by kernel_rfl) (by kernel_rfl) (by kernel_rfl) (fun _ _ _ h => h) (Or.inl ⟨by kernel_rfl, ?yput0p46⟩) (by assumption) ?rput0p46
          case yput0p46 =>
            intro w hSw
            try dsimp only at hSw
            obtain ⟨c0, c1, c2, c3⟩ := cells2 hSw.1; obtain ⟨z0, z1, z2, z3, z4, z5, z6, z7, z8, z9, z10, z11⟩ := cells12 hSw.2
            first | (go_simp; done) | (go_simp; with_reducible rfl)
          try simp only [Act.put, List.setIfInBounds_toArray, List.set_cons_zero, List.set_cons_succ]
          refine wpAnyH_take (i := 7) (oi := ⟨some 38, _, _, _, _, _⟩) (v := ?vput0p47) rfl (by kernel_rfl) (by kernel_rfl) (by kernel_rfl) (fun _ _ _ h => h) (Or.inl ⟨by kernel_rfl, ?yput0p47⟩) (by assumption) ?rput0p47
          case yput0p47 =>
            intro w hSw
            try dsimp only at hSw
            obtain ⟨c0, c1, c2, c3⟩ := cells2 hSw.1; obtain ⟨z0, z1, z2, z3, z4, z5, z6, z7, z8, z9, z10, z11⟩ := cells12 hSw.2
            first | (go_simp; done) | (go_simp; with_reducible rfl)
          try simp only [Act.put, List.setIfInBounds_toArray, List.set_cons_zero, List.set_cons_succ]
          refine wpAnyH_take (i := 8) (oi := ⟨some 39, _, _, _, _, _⟩) (v := ?vput0p48) rfl (by kernel_rfl) (by kernel_rfl) (by kernel_rfl) (fun _ _ _ h => h) (Or.inl ⟨by kernel_rfl, ?yput0p48⟩) (by assumption) ?rput0p48
          case yput0p48 =>
            intro w hSw
            try dsimp only at hSw
            obtain ⟨c0, c1, c2, c3⟩ := cells2 hSw.1; obtain ⟨z0, z1, z2, z3, z4, z5, z6, z7, z8, z9, z10, z11⟩ := cells12 hSw.2
            first | (go_simp; done) | (go_simp; with_reducible rfl)
          try simp only [Act.put, List.setIfInBounds_toArray, List.set_cons_zero, List.set_cons_succ]
          refine wpAnyH_ready (rs := [9]) (by kernel_rfl) (by simp) ?_
          refine AllReadyH.cons (i := 9) (o := ⟨some 11, _, _, _, _, _⟩) rfl (fun K hK => ?_) AllReadyH.nil
          go_simp
          refine hK.out _ _ ?_ (fun hHeld => ?_)
          · exact keptb (by assumption) ((Below.refl _ _).alloc (Nat.le_refl _) _)
          clear hK K
          try simp only [Act.put, List.setIfInBounds_toArray, List.set_cons_zero, List.set_cons_succ]
          refine wpAnyH_ready (rs := [10]) (by kernel_rfl) (by simp) ?_
          refine AllReadyH.cons (i := 10) (o := ⟨none, _, _, _, _, _⟩) rfl (fun K hK => ?_) AllReadyH.nil
          go_simp
          refine hK.out _ _ ?_ (fun hHeld => ?_)
          · exact keptb (w := w5) (by assumption) ((Below.refl w5.heap.size w5).alloc (Nat.le_refl _) _)
          clear hK K
          try simp only [Act.put, List.setIfInBounds_toArray, List.set_cons_zero, List.set_cons_succ]
          refine wpAnyH_take (i := 11) (oi := ⟨some 12, _, _, _, _, _⟩) (v := ?vput0p411) rfl (by kernel_rfl) (by kernel_rfl) (by kernel_rfl) (fun _ _ _ h => h) (Or.inl ⟨by kernel_rfl, ?yput0p411⟩) (by assumption) ?rput0p411
          case yput0p411 =>
            intro w hSw
            try dsimp only at hSw
            obtain ⟨c0, c1, c2, c3⟩ := cells2 hSw.1; obtain ⟨z0, z1, z2, z3, z4, z5, z6, z7, z8, z9, z10, z11⟩ := cells12 hSw.2
            first | (go_simp; done) | (go_simp; with_reducible rfl)
          try simp only [Act.put, List.setIfInBounds_toArray, List.set_cons_zero, List.set_cons_succ]
          refine wpAnyH_take (i := 12) (oi := ⟨some 13, _, _, _, _, _⟩) (v := ?vput0p412) rfl (by kernel_rfl) (by kernel_rfl) (by kernel_rfl) (fun _ _ _ h => h) (Or.inl ⟨by kernel_rfl, ?yput0p412⟩) (by assumption) ?rput0p412
          case yput0p412 =>
            intro w hSw
            try dsimp only at hSw
            obtain ⟨c0, c1, c2, c3⟩ := cells2 hSw.1; obtain ⟨z0, z1, z2, z3, z4, z5, z6, z7, z8, z9, z10, z11⟩ := cells12 hSw.2
            first | (go_simp; done) | (go_simp; with_reducible rfl)
          try simp only [Act.put, List.setIfInBounds_toArray, List.set_cons_zero, List.set_cons_succ]
          refine wpAnyH_done (by kernel_rfl) ?_ _
        case' bput09 =>
          go_simp
          refine hK.out _ _ ?_ (fun hHeld => ?_)
          · exact keptb (by assumption) ((Below.refl _ _).alloc (Nat.le_refl _) _)
          clear hK K
          try simp only [Act.put, List.setIfInBounds_toArray, List.set_cons_zero, List.set_cons_succ]
          refine wpAnyH_ready (rs := [4]) (by kernel_rfl) (by simp) ?_
          refine AllReadyH.cons (i := 4) (o := ⟨some 36, _, _, _, _, _⟩) rfl (fun K hK => ?_) AllReadyH.nil
          go_simp
          refine (HPU0.out _ _ (HS.out.2.1.below ((Below.refl _ wr).drew.alloc (Nat.le_refl _) _))).mono ?_
          rintro e w5 ⟨V5, rfl, hr5, hb5⟩
          obtain ⟨a5, k5, rfl⟩ := hr5.form
          have g1 : Below wr.heap.size wr (wr.drew.alloc (.cells #[.int .i64 0, .slice none 0 0] 29)) := (Below.refl _ wr).drew.alloc (Nat.le_refl _) _
          have G5 := Lib.hid (⟨hr5, g1.trans (hb5.mono g1.size)⟩ : _ ∧ _)
          have HN5 := Lib.hid (box_below (show (wr.drew.alloc (.cells #[.int .i64 0, .slice none 0 0] 29)).heap[wr.heap.size]? = some (.cells #[.int .i64 0, .slice none 0 0] 29 (0, 0)) from box_new wr.drew _ _) hb5)
          obtain ⟨y0, y1, y2, y3⟩ := cells2 HN5.out
          go_wp2_with fail
          refine hK.out _ _ ?_ (fun hHeld => ?_)
          · exact keptb (by assumption) hb5
          clear hK K
          try simp only [Act.put, List.setIfInBounds_toArray, List.set_cons_zero, List.set_cons_succ]
          refine wpAnyH_take (i := 5) (oi := ⟨some 31, _, _, _, _, _⟩) (v := ?vput0p95) rfl (by kernel_rfl) (by kernel_rfl) (by kernel_rfl) (fun _ _ _ h => h) (Or.inl ⟨by kernel_rfl, ?yput0p95⟩) (by assumption) ?rput0p95
          case yput0p95 =>
            intro w hSw
            try dsimp only at hSw
            obtain ⟨c0, c1, c2, c3⟩ := cells2 hSw.1; obtain ⟨z0, z1, z2, z3, z4, z5, z6, z7, z8, z9, z10, z11⟩ := cells12 hSw.2
            first | (go_simp; done) | (go_simp; with_reducible rfl)
          try simp only [Act.put, List.setIfInBounds_toArray, List.set_cons_zero, List.set_cons_succ]
          refine wpAnyH_take (i := 6) (oi := ⟨some 37, _, _, _, _, _⟩) (v := ?vput0p96) rfl (by kernel_rfl) (by kernel_rfl) (by kernel_rfl) (fun _ _ _ h => h) (Or.inl ⟨by kernel_rfl, ?yput0p96⟩) (by assumption) ?rput0p96
          case yput0p96 =>
            intro w hSw
            try dsimp only at hSw
            obtain ⟨c0, c1, c2, c3⟩ := cells2 hSw.1; obtain ⟨z0, z1, z2, z3, z4, z5, z6, z7, z8, z9, z10, z11⟩ := cells12 hSw.2
            first | (go_simp; done) | (go_simp; with_reducible rfl)
          try simp only [Act.put, List.setIfInBounds_toArray, List.set_cons_zero, List.set_cons_succ]
          refine wpAnyH_take (i := 7) (oi := ⟨some 38, _, _, _, _, _⟩) (v := ?vput0p97) rfl (by kernel_rfl) (by kernel_rfl) (by kernel_rfl) (fun _ _ _ h => h) (Or.inl ⟨by kernel_rfl, ?yput0p97⟩) (by assumption) ?rput0p97
          case yput0p97 =>
            intro w hSw
            try dsimp only at hSw
            obtain ⟨c0, c1, c2, c3⟩ := cells2 hSw.1; obtain ⟨z0, z1, z2, z3, z4, z5, z6, z7, z8, z9, z10, z11⟩ := cells12 hSw.2
            first | (go_simp; done) | (go_simp; with_reducible rfl)
          try simp only [Act.put, List.setIfInBounds_toArray, List.set_cons_zero, List.set_cons_succ]
          refine wpAnyH_take (i := 8) (oi := ⟨some 39, _, _, _, _, _⟩) (v := ?vput0p98) rfl (by kernel_rfl) (by kernel_rfl) (by kernel_rfl) (fun _ _ _ h => h) (Or.inl ⟨by kernel_rfl, ?yput0p98⟩) (by assumption) ?rput0p98
          case yput0p98 =>
            intro w hSw
            try dsimp only at hSw
            obtain ⟨c0, c1, c2, c3⟩ := cells2 hSw.1; obtain ⟨z0, z1, z2, z3, z4, z5, z6, z7, z8, z9, z10, z11⟩ := cells12 hSw.2
            first | (go_simp; done) | (go_simp; with_reducible rfl)
          try simp only [Act.put, List.setIfInBounds_toArray, List.set_cons_zero, List.set_cons_succ]
          refine wpAnyH_ready (rs := [10]) (by kernel_rfl) (by simp) ?_
          refine AllReadyH.cons (i := 10) (o := ⟨none, _, _, _, _, _⟩) rfl (fun K hK => ?_) AllReadyH.nil
          go_simp
          refine hK.out _ _ ?_ (fun hHeld => ?_)
          · exact keptb HX.out (below_store (below_store G5.out.2 (Nat.le_refl _)) (Nat.le_refl _))
          clear hK K
          try simp only [Act.put, List.setIfInBounds_toArray, List.set_cons_zero, List.set_cons_succ]
          refine wpAnyH_take (i := 11) (oi := ⟨some 12, _, _, _, _, _⟩) (v := ?vput0p911) rfl (by kernel_rfl) (by kernel_rfl) (by kernel_rfl) (fun _ _ _ h => h) (Or.inl ⟨by kernel_rfl, ?yput0p911⟩) (by assumption) ?rput0p911
          case yput0p911 =>
            intro w hSw
            try dsimp only at hSw
            obtain ⟨c0, c1, c2, c3⟩ := cells2 hSw.1; obtain ⟨z0, z1, z2, z3, z4, z5, z6, z7, z8, z9, z10, z11⟩ := cells12 hSw.2
            first | (go_simp; done) | (go_simp; with_reducible rfl)
          try simp only [Act.put, List.setIfInBounds_toArray, List.set_cons_zero, List.set_cons_succ]
          refine wpAnyH_take (i := 12) (oi := ⟨some 13, _, _, _, _, _⟩) (v := ?vput0p912) rfl (by kernel_rfl) (by kernel_rfl) (by kernel_rfl) (fun _ _ _ h => h) (Or.inl ⟨by kernel_rfl, ?yput0p912⟩) (by assumption) ?rput0p912
          case yput0p912 =>
            intro w hSw
            try dsimp only at hSw
            obtain ⟨c0, c1, c2, c3⟩ := cells2 hSw.1; obtain ⟨z0, z1, z2, z3, z4, z5, z6, z7, z8, z9, z10, z11⟩ := cells12 hSw.2
            first | (go_simp; done) | (go_simp; with_reducible rfl)
          try simp only [Act.put, List.setIfInBounds_toArray, List.set_cons_zero, List.set_cons_succ]
          refine wpAnyH_done (by kernel_rfl) ?_ _
        case bput09 =>
          obtain ⟨W5, hW5⟩ : ∃ W5, W5 = (w5.setCell ⟨wr.heap.size, 0, none⟩ (.int .i64 room)).setCell ⟨wr.heap.size, 1, none⟩ (.slice a5 (T1).length k5) := ⟨_, rfl⟩
          have hb : Below wr.heap.size wr W5 := by rw [hW5]; exact below_store (below_store G5.out.2 (Nat.le_refl _)) (Nat.le_refl _)
          have hr : DocRow W5 0 (.slice a5 (T1).length k5) T1 := by rw [hW5]; exact (G5.out.1.set_other HN5.out (by decide) _).set_other (set_any (i := 0) HN5.out _) (by decide) _
          have hq : W5.heap[wr.heap.size]? = some (.cells #[.int .i64 room, .slice a5 (T1).length k5] 29 (0, 0)) := by rw [hW5]; exact box_set2 HN5.out _ _
          rw [← hW5]
          clear y0 y1 y2 y3 hW5
          have HS5 := Lib.hid (HS.out.below hb)
          have HR5 := Lib.hid hr
          have HQ5 := Lib.hid hq
          have hne : o + 1 ≠ w.heap.size := by have := HS.out.2.2.2.2.2.2.2.2; omega
          obtain ⟨x0, x1, x2, x3⟩ := cells2 HS5.out.1
          clear hb hr hq
          by_cases hc : c0 = 0
          · have t4 : (c0 == 0) = true := by simp [hc]
            have t5 : (c0 != 0) = false := by simp [hc]
            have HC0 := Lib.hid hc
            obtain ⟨q0, q1, q2, q3⟩ := cells2 HQ5.out
            obtain ⟨n5, n6, n7, n8⟩ := cells3 HS5.out.2.2.2.2.2.1
            obtain ⟨f5, f6⟩ := froz3 HS5.out.2.2.2.2.2.1
            clear hc
            go_wp2_with fail
            exact ⟨⟨1, by omega, rfl, Lib.hid ⟨fun h => by omega, fun _ => ⟨HC0.out, _, (HS5.out.put HR5.out).num 0 n0 0 0 n0 rfl⟩, fun h => by omega, fun h => by omega⟩⟩, by simp [intOf]⟩
          · have t4 : (c0 == 0) = false := by simpa using hc
            have t5 : (c0 != 0) = true := by simpa using hc
            have HKT : Hid (keyT G room ts t = (ts, (0, 0, 0), c0)) := Lib.hid (HKE.out.1 hc)
            obtain ⟨q0, q1, q2, q3⟩ := cells2 HS5.out.2.2.2.2.1
            obtain ⟨y0, y1, y2, y3⟩ := cells2 HS5.out.2.2.1
            obtain ⟨u0, u1, u2, u3⟩ := cells3 HS5.out.2.2.2.1
            obtain ⟨u4, u5⟩ := froz3 HS5.out.2.2.2.1
            clear hc
            go_wp2_with fail
            refine bodyPost_ret (v := .tuple #[.agg #[.int .i64 room, .slice a0 ts.length cap], .agg #[.int .i64 0, .int .i64 0, .int .i64 0], .int .i64 c0]) (by simp [results, Try.results28, go_sem, y0, y1, u0, u1, u2]) rfl ?_
            unfold RKeyEnd
            rw [HKT.out]
            have h5 := HS5.out.fin (HR.out.below HS5.out.bel) (.int .i64 room) (.slice a0 ts.length cap) (.int .i64 0) (.int .i64 0) (.int .i64 0)
            exact ⟨_, rfl, h5.1, h5.2⟩
        case bput04 =>
          obtain ⟨W5, hW5⟩ : ∃ W5, W5 = w5.alloc (.cells #[.int .i64 room, .slice a5 (T1).length k5] 29) := ⟨_, rfl⟩
          have hb : Below wr.heap.size wr W5 := by rw [hW5]; exact G5.out.2.alloc G5.out.2.size _
          have hr : DocRow W5 0 (.slice a5 (T1).length k5) T1 := by rw [hW5]; exact G5.out.1.below ((Below.refl _ _).alloc (Nat.le_refl _) _)
          have hq : W5.heap[w5.heap.size]? = some (.cells #[.int .i64 room, .slice a5 (T1).length k5] 29 (0, 0)) := by rw [hW5]; exact box_new w5 _ _
          rw [← hW5]
          clear hW5
          have HS5 := Lib.hid (HS.out.below hb)
          have HR5 := Lib.hid hr
          have HQ5 := Lib.hid hq
          have hne : o + 1 ≠ w.heap.size := by have := HS.out.2.2.2.2.2.2.2.2; omega
          obtain ⟨x0, x1, x2, x3⟩ := cells2 HS5.out.1
          clear hb hr hq
          by_cases hc : c0 = 0
          · have t4 : (c0 == 0) = true := by simp [hc]
            have t5 : (c0 != 0) = false := by simp [hc]
            have HC0 := Lib.hid hc
            obtain ⟨q0, q1, q2, q3⟩ := cells2 HQ5.out
            obtain ⟨n5, n6, n7, n8⟩ := cells3 HS5.out.2.2.2.2.2.1
            obtain ⟨f5, f6⟩ := froz3 HS5.out.2.2.2.2.2.1
            clear hc
            go_wp2_with fail
            exact ⟨⟨1, by omega, rfl, Lib.hid ⟨fun h => by omega, fun _ => ⟨HC0.out, _, (HS5.out.put HR5.out).num 0 n0 0 0 n0 rfl⟩, fun h => by omega, fun h => by omega⟩⟩, by simp [intOf]⟩
          · have t4 : (c0 == 0) = false := by simpa using hc
            have t5 : (c0 != 0) = true := by simpa using hc
            have HKT : Hid (keyT G room ts t = (ts, (0, 0, 0), c0)) := Lib.hid (HKE.out.1 hc)
            obtain ⟨q0, q1, q2, q3⟩ := cells2 HS5.out.2.2.2.2.1
            obtain ⟨y0, y1, y2, y3⟩ := cells2 HS5.out.2.2.1
            obtain ⟨u0, u1, u2, u3⟩ := cells3 HS5.out.2.2.2.1
            obtain ⟨u4, u5⟩ := froz3 HS5.out.2.2.2.1
            clear hc
            go_wp2_with fail
            refine bodyPost_ret (v := .tuple #[.agg #[.int .i64 room, .slice a0 ts.length cap], .agg #[.int .i64 0, .int .i64 0, .int .i64 0], .int .i64 c0]) (by simp [results, Try.results28, go_sem, y0, y1, u0, u1, u2]) rfl ?_
            unfold RKeyEnd
            rw [HKT.out]
            have h5 := HS5.out.fin (HR.out.below HS5.out.bel) (.int .i64 room) (.slice a0 ts.length cap) (.int .i64 0) (.int .i64 0) (.int .i64 0)
            exact ⟨_, rfl, h5.1, h5.2⟩
      · rw [show ((1 : Nat) : Int) = 1 from rfl]
        obtain ⟨hc0, V, hs⟩ := hb.out.2.1 rfl
        have HC0 := Lib.hid hc0
        have HS := Lib.hid hs
        clear hb hc0 hs
        obtain ⟨bv, bc, rfl⟩ := HS.out.2.1.form
        have HX := Lib.hid (⟨HS.out.1, HS.out.2.2.2.2.2.2.1⟩ : _ ∧ _)
        go_wp2_with fail
        refine wp_region_held_drew (S := (fun w' => w'.heap[w.heap.size]? = some (.cells #[.int .i64 room, .slice bv (T1).length bc] 29 (0, 0)) ∧ w'.heap[o + 1 + 1]? = some (.cells #[.int .i64 (kindV t.s), .string (text0 t.s), .string (text1 t.s), .string (text2 t.s), .int .i64 (kindV t.p), .string (text0 t.p), .string (text1 t.p), .string (text2 t.p), .int .i64 (kindV t.o), .string (text0 t.o), .string (text1 t.o), .string (text2 t.o)] 98 (0, 0)))) (by kernel_rfl) ?hSput10 (fun hHeld => ?_)
        case hSput10 => exact HX.out
        refine wpAnyH_take (i := 0) (oi := ⟨some 32, _, _, _, _, _⟩) (v := ?vput10) rfl (by kernel_rfl) (by kernel_rfl) (by kernel_rfl) (fun _ _ _ h => h) (Or.inl ⟨by kernel_rfl, ?yput10⟩) (by assumption) ?rput10
        case yput10 =>
          intro w hSw
          try dsimp only at hSw
          obtain ⟨c0, c1, c2, c3⟩ := cells2 hSw.1; obtain ⟨z0, z1, z2, z3, z4, z5, z6, z7, z8, z9, z10, z11⟩ := cells12 hSw.2
          first | (go_simp; done) | (go_simp; with_reducible rfl)
        try simp only [Act.put, List.setIfInBounds_toArray, List.set_cons_zero, List.set_cons_succ]
        refine wpAnyH_take (i := 1) (oi := ⟨some 33, _, _, _, _, _⟩) (v := ?vput11) rfl (by kernel_rfl) (by kernel_rfl) (by kernel_rfl) (fun _ _ _ h => h) (Or.inl ⟨by kernel_rfl, ?yput11⟩) (by assumption) ?rput11
        case yput11 =>
          intro w hSw
          try dsimp only at hSw
          obtain ⟨c0, c1, c2, c3⟩ := cells2 hSw.1; obtain ⟨z0, z1, z2, z3, z4, z5, z6, z7, z8, z9, z10, z11⟩ := cells12 hSw.2
          first | (go_simp; done) | (go_simp; with_reducible rfl)
        try simp only [Act.put, List.setIfInBounds_toArray, List.set_cons_zero, List.set_cons_succ]
        refine wpAnyH_take (i := 2) (oi := ⟨some 34, _, _, _, _, _⟩) (v := ?vput12) rfl (by kernel_rfl) (by kernel_rfl) (by kernel_rfl) (fun _ _ _ h => h) (Or.inl ⟨by kernel_rfl, ?yput12⟩) (by assumption) ?rput12
        case yput12 =>
          intro w hSw
          try dsimp only at hSw
          obtain ⟨c0, c1, c2, c3⟩ := cells2 hSw.1; obtain ⟨z0, z1, z2, z3, z4, z5, z6, z7, z8, z9, z10, z11⟩ := cells12 hSw.2
          first | (go_simp; done) | (go_simp; with_reducible rfl)
        try simp only [Act.put, List.setIfInBounds_toArray, List.set_cons_zero, List.set_cons_succ]
        refine wpAnyH_take (i := 3) (oi := ⟨some 35, _, _, _, _, _⟩) (v := ?vput13) rfl (by kernel_rfl) (by kernel_rfl) (by kernel_rfl) (fun _ _ _ h => h) (Or.inl ⟨by kernel_rfl, ?yput13⟩) (by assumption) ?rput13
        case yput13 =>
          intro w hSw
          try dsimp only at hSw
          obtain ⟨c0, c1, c2, c3⟩ := cells2 hSw.1; obtain ⟨z0, z1, z2, z3, z4, z5, z6, z7, z8, z9, z10, z11⟩ := cells12 hSw.2
          first | (go_simp; done) | (go_simp; with_reducible rfl)
        try simp only [Act.put, List.setIfInBounds_toArray, List.set_cons_zero, List.set_cons_succ]
        refine wpAnyH_ready (rs := [4, 9]) (by kernel_rfl) (by simp) ?_
        refine AllReadyH.cons (i := 4) (o := ⟨some 36, _, _, _, _, _⟩) rfl (fun K hK => ?bput14) (AllReadyH.cons (i := 9) (o := ⟨some 11, _, _, _, _, _⟩) rfl (fun K hK => ?bput19) (AllReadyH.nil))
        case' bput14 =>
          go_simp
          refine (HPU1.out _ _ (HS.out.2.1.below (Below.refl _ _).drew)).mono ?_
          rintro e w5 ⟨V5, rfl, hr5, hb5⟩
          obtain ⟨a5, k5, rfl⟩ := hr5.form
          have G5 := Lib.hid (⟨hr5, (Below.refl _ wr).drew.trans hb5⟩ : _ ∧ _)
          go_wp2_with fail
          refine hK.out _ _ ?_ (fun hHeld => ?_)
          · exact keptb (by assumption) hb5
          clear hK K
          try simp only [Act.put, List.setIfInBounds_toArray, List.set_cons_zero, List.set_cons_succ]
          refine wpAnyH_take (i := 5) (oi := ⟨some 31, _, _, _, _, _⟩) (v := ?vput1p45) rfl (by kernel_rfl) (by kernel_rfl) (by kernel_rfl) (fun _ _ _ h => h) (Or.inl ⟨by kernel_rfl, ?yput1p45⟩) (by assumption) ?rput1p45
          case yput1p45 =>
            intro w hSw
            try dsimp only at hSw
            obtain ⟨c0, c1, c2, c3⟩ := cells2 hSw.1; obtain ⟨z0, z1, z2, z3, z4, z5, z6, z7, z8, z9, z10, z11⟩ := cells12 hSw.2
            first | (go_simp; done) | (go_simp; with_reducible rfl)
          try simp only [Act.put, List.setIfInBounds_toArray, List.set_cons_zero, List.set_cons_succ]
          refine wpAnyH_take (i := 6) (oi := ⟨some 37, _, _, _, _, _⟩) (v := ?vput1p46) rfl (by kernel_rfl) (by kernel_rfl) (by kernel_rfl) (fun _ _ _ h => h) (Or.inl ⟨by kernel_rfl, ?yput1p46⟩) (by assumption) ?rput1p46
          case yput1p46 =>
            intro w hSw
            try dsimp only at hSw
            obtain ⟨c0, c1, c2, c3⟩ := cells2 hSw.1; obtain ⟨z0, z1, z2, z3, z4, z5, z6, z7, z8, z9, z10, z11⟩ := cells12 hSw.2
            first | (go_simp; done) | (go_simp; with_reducible rfl)
          try simp only [Act.put, List.setIfInBounds_toArray, List.set_cons_zero, List.set_cons_succ]
          refine wpAnyH_take (i := 7) (oi := ⟨some 38, _, _, _, _, _⟩) (v := ?vput1p47) rfl (by kernel_rfl) (by kernel_rfl) (by kernel_rfl) (fun _ _ _ h => h) (Or.inl ⟨by kernel_rfl, ?yput1p47⟩) (by assumption) ?rput1p47
          case yput1p47 =>
            intro w hSw
            try dsimp only at hSw
            obtain ⟨c0, c1, c2, c3⟩ := cells2 hSw.1; obtain ⟨z0, z1, z2, z3, z4, z5, z6, z7, z8, z9, z10, z11⟩ := cells12 hSw.2
            first | (go_simp; done) | (go_simp; with_reducible rfl)
          try simp only [Act.put, List.setIfInBounds_toArray, List.set_cons_zero, List.set_cons_succ]
          refine wpAnyH_take (i := 8) (oi := ⟨some 39, _, _, _, _, _⟩) (v := ?vput1p48) rfl (by kernel_rfl) (by kernel_rfl) (by kernel_rfl) (fun _ _ _ h => h) (Or.inl ⟨by kernel_rfl, ?yput1p48⟩) (by assumption) ?rput1p48
          case yput1p48 =>
            intro w hSw
            try dsimp only at hSw
            obtain ⟨c0, c1, c2, c3⟩ := cells2 hSw.1; obtain ⟨z0, z1, z2, z3, z4, z5, z6, z7, z8, z9, z10, z11⟩ := cells12 hSw.2
            first | (go_simp; done) | (go_simp; with_reducible rfl)
          try simp only [Act.put, List.setIfInBounds_toArray, List.set_cons_zero, List.set_cons_succ]
          refine wpAnyH_ready (rs := [9]) (by kernel_rfl) (by simp) ?_
          refine AllReadyH.cons (i := 9) (o := ⟨some 11, _, _, _, _, _⟩) rfl (fun K hK => ?_) AllReadyH.nil
          go_simp
          refine hK.out _ _ ?_ (fun hHeld => ?_)
          · exact keptb (by assumption) ((Below.refl _ _).alloc (Nat.le_refl _) _)
          clear hK K
          try simp only [Act.put, List.setIfInBounds_toArray, List.set_cons_zero, List.set_cons_succ]
          refine wpAnyH_ready (rs := [10]) (by kernel_rfl) (by simp) ?_
          refine AllReadyH.cons (i := 10) (o := ⟨none, _, _, _, _, _⟩) rfl (fun K hK => ?_) AllReadyH.nil
          go_simp
          refine hK.out _ _ ?_ (fun hHeld => ?_)
          · exact keptb (w := w5) (by assumption) ((Below.refl w5.heap.size w5).alloc (Nat.le_refl _) _)
          clear hK K
          try simp only [Act.put, List.setIfInBounds_toArray, List.set_cons_zero, List.set_cons_succ]
          refine wpAnyH_take (i := 11) (oi := ⟨some 12, _, _, _, _, _⟩) (v := ?vput1p411) rfl (by kernel_rfl) (by kernel_rfl) (by kernel_rfl) (fun _ _ _ h => h) (Or.inl ⟨by kernel_rfl, ?yput1p411⟩) (by assumption) ?rput1p411
          case yput1p411 =>
            intro w hSw
            try dsimp only at hSw
            obtain ⟨c0, c1, c2, c3⟩ := cells2 hSw.1; obtain ⟨z0, z1, z2, z3, z4, z5, z6, z7, z8, z9, z10, z11⟩ := cells12 hSw.2
            first | (go_simp; done) | (go_simp; with_reducible rfl)
          try simp only [Act.put, List.setIfInBounds_toArray, List.set_cons_zero, List.set_cons_succ]
          refine wpAnyH_take (i := 12) (oi := ⟨some 13, _, _, _, _, _⟩) (v := ?vput1p412) rfl (by kernel_rfl) (by kernel_rfl) (by kernel_rfl) (fun _ _ _ h => h) (Or.inl ⟨by kernel_rfl, ?yput1p412⟩) (by assumption) ?rput1p412
          case yput1p412 =>
            intro w hSw
            try dsimp only at hSw
            obtain ⟨c0, c1, c2, c3⟩ := cells2 hSw.1; obtain ⟨z0, z1, z2, z3, z4, z5, z6, z7, z8, z9, z10, z11⟩ := cells12 hSw.2
            first | (go_simp; done) | (go_simp; with_reducible rfl)
          try simp only [Act.put, List.setIfInBounds_toArray, List.set_cons_zero, List.set_cons_succ]
          refine wpAnyH_done (by kernel_rfl) ?_ _
        case' bput19 =>
          go_simp
          refine hK.out _ _ ?_ (fun hHeld => ?_)
          · exact keptb (by assumption) ((Below.refl _ _).alloc (Nat.le_refl _) _)
          clear hK K
          try simp only [Act.put, List.setIfInBounds_toArray, List.set_cons_zero, List.set_cons_succ]
          refine wpAnyH_ready (rs := [4]) (by kernel_rfl) (by simp) ?_
          refine AllReadyH.cons (i := 4) (o := ⟨some 36, _, _, _, _, _⟩) rfl (fun K hK => ?_) AllReadyH.nil
          go_simp
          refine (HPU1.out _ _ (HS.out.2.1.below ((Below.refl _ wr).drew.alloc (Nat.le_refl _) _))).mono ?_
          rintro e w5 ⟨V5, rfl, hr5, hb5⟩
          obtain ⟨a5, k5, rfl⟩ := hr5.form
          have g1 : Below wr.heap.size wr (wr.drew.alloc (.cells #[.int .i64 0, .slice none 0 0] 29)) := (Below.refl _ wr).drew.alloc (Nat.le_refl _) _
          have G5 := Lib.hid (⟨hr5, g1.trans (hb5.mono g1.size)⟩ : _ ∧ _)
          have HN5 := Lib.hid (box_below (show (wr.drew.alloc (.cells #[.int .i64 0, .slice none 0 0] 29)).heap[wr.heap.size]? = some (.cells #[.int .i64 0, .slice none 0 0] 29 (0, 0)) from box_new wr.drew _ _) hb5)
          obtain ⟨y0, y1, y2, y3⟩ := cells2 HN5.out
          go_wp2_with fail
          refine hK.out _ _ ?_ (fun hHeld => ?_)
          · exact keptb (by assumption) hb5
          clear hK K
          try simp only [Act.put, List.setIfInBounds_toArray, List.set_cons_zero, List.set_cons_succ]
          refine wpAnyH_take (i := 5) (oi := ⟨some 31, _, _, _, _, _⟩) (v := ?vput1p95) rfl (by kernel_rfl) (by kernel_rfl) (by kernel_rfl) (fun _ _ _ h => h) (Or.inl ⟨by kernel_rfl, ?yput1p95⟩) (by assumption) ?rput1p95
          case yput1p95 =>
            intro w hSw
            try dsimp only at hSw
            obtain ⟨c0, c1, c2, c3⟩ := cells2 hSw.1; obtain ⟨z0, z1, z2, z3, z4, z5, z6, z7, z8, z9, z10, z11⟩ := cells12 hSw.2
            first | (go_simp; done) | (go_simp; with_reducible rfl)
          try simp only [Act.put, List.setIfInBounds_toArray, List.set_cons_zero, List.set_cons_succ]
          refine wpAnyH_take (i := 6) (oi := ⟨some 37, _, _, _, _, _⟩) (v := ?vput1p96) rfl (by kernel_rfl) (by kernel_rfl) (by kernel_rfl) (fun _ _ _ h => h) (Or.inl ⟨by kernel_rfl, ?yput1p96⟩) (by assumption) ?rput1p96
          case yput1p96 =>
            intro w hSw
            try dsimp only at hSw
            obtain ⟨c0, c1, c2, c3⟩ := cells2 hSw.1; obtain ⟨z0, z1, z2, z3, z4, z5, z6, z7, z8, z9, z10, z11⟩ := cells12 hSw.2
            first | (go_simp; done) | (go_simp; with_reducible rfl)
          try simp only [Act.put, List.setIfInBounds_toArray, List.set_cons_zero, List.set_cons_succ]
          refine wpAnyH_take (i := 7) (oi := ⟨some 38, _, _, _, _, _⟩) (v := ?vput1p97) rfl (by kernel_rfl) (by kernel_rfl) (by kernel_rfl) (fun _ _ _ h => h) (Or.inl ⟨by kernel_rfl, ?yput1p97⟩) (by assumption) ?rput1p97
          case yput1p97 =>
            intro w hSw
            try dsimp only at hSw
            obtain ⟨c0, c1, c2, c3⟩ := cells2 hSw.1; obtain ⟨z0, z1, z2, z3, z4, z5, z6, z7, z8, z9, z10, z11⟩ := cells12 hSw.2
            first | (go_simp; done) | (go_simp; with_reducible rfl)
          try simp only [Act.put, List.setIfInBounds_toArray, List.set_cons_zero, List.set_cons_succ]
          refine wpAnyH_take (i := 8) (oi := ⟨some 39, _, _, _, _, _⟩) (v := ?vput1p98) rfl (by kernel_rfl) (by kernel_rfl) (by kernel_rfl) (fun _ _ _ h => h) (Or.inl ⟨by kernel_rfl, ?yput1p98⟩) (by assumption) ?rput1p98
          case yput1p98 =>
            intro w hSw
            try dsimp only at hSw
            obtain ⟨c0, c1, c2, c3⟩ := cells2 hSw.1; obtain ⟨z0, z1, z2, z3, z4, z5, z6, z7, z8, z9, z10, z11⟩ := cells12 hSw.2
            first | (go_simp; done) | (go_simp; with_reducible rfl)
          try simp only [Act.put, List.setIfInBounds_toArray, List.set_cons_zero, List.set_cons_succ]
          refine wpAnyH_ready (rs := [10]) (by kernel_rfl) (by simp) ?_
          refine AllReadyH.cons (i := 10) (o := ⟨none, _, _, _, _, _⟩) rfl (fun K hK => ?_) AllReadyH.nil
          go_simp
          refine hK.out _ _ ?_ (fun hHeld => ?_)
          · exact keptb HX.out (below_store (below_store G5.out.2 (Nat.le_refl _)) (Nat.le_refl _))
          clear hK K
          try simp only [Act.put, List.setIfInBounds_toArray, List.set_cons_zero, List.set_cons_succ]
          refine wpAnyH_take (i := 11) (oi := ⟨some 12, _, _, _, _, _⟩) (v := ?vput1p911) rfl (by kernel_rfl) (by kernel_rfl) (by kernel_rfl) (fun _ _ _ h => h) (Or.inl ⟨by kernel_rfl, ?yput1p911⟩) (by assumption) ?rput1p911
          case yput1p911 =>
            intro w hSw
            try dsimp only at hSw
            obtain ⟨c0, c1, c2, c3⟩ := cells2 hSw.1; obtain ⟨z0, z1, z2, z3, z4, z5, z6, z7, z8, z9, z10, z11⟩ := cells12 hSw.2
            first | (go_simp; done) | (go_simp; with_reducible rfl)
          try simp only [Act.put, List.setIfInBounds_toArray, List.set_cons_zero, List.set_cons_succ]
          refine wpAnyH_take (i := 12) (oi := ⟨some 13, _, _, _, _, _⟩) (v := ?vput1p912) rfl (by kernel_rfl) (by kernel_rfl) (by kernel_rfl) (fun _ _ _ h => h) (Or.inl ⟨by kernel_rfl, ?yput1p912⟩) (by assumption) ?rput1p912
          case yput1p912 =>
            intro w hSw
            try dsimp only at hSw
            obtain ⟨c0, c1, c2, c3⟩ := cells2 hSw.1; obtain ⟨z0, z1, z2, z3, z4, z5, z6, z7, z8, z9, z10, z11⟩ := cells12 hSw.2
            first | (go_simp; done) | (go_simp; with_reducible rfl)
          try simp only [Act.put, List.setIfInBounds_toArray, List.set_cons_zero, List.set_cons_succ]
          refine wpAnyH_done (by kernel_rfl) ?_ _
        case bput19 =>
          obtain ⟨W5, hW5⟩ : ∃ W5, W5 = (w5.setCell ⟨wr.heap.size, 0, none⟩ (.int .i64 room)).setCell ⟨wr.heap.size, 1, none⟩ (.slice a5 (T2).length k5) := ⟨_, rfl⟩
          have hb : Below wr.heap.size wr W5 := by rw [hW5]; exact below_store (below_store G5.out.2 (Nat.le_refl _)) (Nat.le_refl _)
          have hr : DocRow W5 0 (.slice a5 (T2).length k5) T2 := by rw [hW5]; exact (G5.out.1.set_other HN5.out (by decide) _).set_other (set_any (i := 0) HN5.out _) (by decide) _
          have hq : W5.heap[wr.heap.size]? = some (.cells #[.int .i64 room, .slice a5 (T2).length k5] 29 (0, 0)) := by rw [hW5]; exact box_set2 HN5.out _ _
          rw [← hW5]
          clear y0 y1 y2 y3 hW5
          have HS5 := Lib.hid (HS.out.below hb)
          have HR5 := Lib.hid hr
          have HQ5 := Lib.hid hq
          have hne : o + 1 ≠ w.heap.size := by have := HS.out.2.2.2.2.2.2.2.2; omega
          obtain ⟨x0, x1, x2, x3⟩ := cells2 HS5.out.1
          clear hb hr hq
          by_cases hc : c1 = 0
          · have t4 : (c1 == 0) = true := by simp [hc]
            have t5 : (c1 != 0) = false := by simp [hc]
            have HC1 := Lib.hid hc
            obtain ⟨q0, q1, q2, q3⟩ := cells2 HQ5.out
            obtain ⟨n5, n6, n7, n8⟩ := cells3 HS5.out.2.2.2.2.2.1
            obtain ⟨f5, f6⟩ := froz3 HS5.out.2.2.2.2.2.1
            clear hc
            go_wp2_with fail
            exact ⟨⟨2, by omega, rfl, Lib.hid ⟨fun h => by omega, fun h => by omega, fun _ => ⟨HC0.out, HC1.out, _, (HS5.out.put HR5.out).num 1 n0 n1 0 n1 rfl⟩, fun h => by omega⟩⟩, by simp [intOf]⟩
          · have t4 : (c1 == 0) = false := by simpa using hc
            have t5 : (c1 != 0) = true := by simpa using hc
            have HKT : Hid (keyT G room ts t = (ts, (0, 0, 0), c1)) := Lib.hid (HKE.out.2.1 HC0.out hc)
            obtain ⟨q0, q1, q2, q3⟩ := cells2 HS5.out.2.2.2.2.1
            obtain ⟨y0, y1, y2, y3⟩ := cells2 HS5.out.2.2.1
            obtain ⟨u0, u1, u2, u3⟩ := cells3 HS5.out.2.2.2.1
            obtain ⟨u4, u5⟩ := froz3 HS5.out.2.2.2.1
            clear hc
            go_wp2_with fail
            refine bodyPost_ret (v := .tuple #[.agg #[.int .i64 room, .slice a0 ts.length cap], .agg #[.int .i64 0, .int .i64 0, .int .i64 0], .int .i64 c1]) (by simp [results, Try.results28, go_sem, y0, y1, u0, u1, u2]) rfl ?_
            unfold RKeyEnd
            rw [HKT.out]
            have h5 := HS5.out.fin (HR.out.below HS5.out.bel) (.int .i64 room) (.slice a0 ts.length cap) (.int .i64 0) (.int .i64 0) (.int .i64 0)
            exact ⟨_, rfl, h5.1, h5.2⟩
        case bput14 =>
          obtain ⟨W5, hW5⟩ : ∃ W5, W5 = w5.alloc (.cells #[.int .i64 room, .slice a5 (T2).length k5] 29) := ⟨_, rfl⟩
          have hb : Below wr.heap.size wr W5 := by rw [hW5]; exact G5.out.2.alloc G5.out.2.size _
          have hr : DocRow W5 0 (.slice a5 (T2).length k5) T2 := by rw [hW5]; exact G5.out.1.below ((Below.refl _ _).alloc (Nat.le_refl _) _)
          have hq : W5.heap[w5.heap.size]? = some (.cells #[.int .i64 room, .slice a5 (T2).length k5] 29 (0, 0)) := by rw [hW5]; exact box_new w5 _ _
          rw [← hW5]
          clear hW5
          have HS5 := Lib.hid (HS.out.below hb)
          have HR5 := Lib.hid hr
          have HQ5 := Lib.hid hq
          have hne : o + 1 ≠ w.heap.size := by have := HS.out.2.2.2.2.2.2.2.2; omega
          obtain ⟨x0, x1, x2, x3⟩ := cells2 HS5.out.1
          clear hb hr hq
          by_cases hc : c1 = 0
          · have t4 : (c1 == 0) = true := by simp [hc]
            have t5 : (c1 != 0) = false := by simp [hc]
            have HC1 := Lib.hid hc
            obtain ⟨q0, q1, q2, q3⟩ := cells2 HQ5.out
            obtain ⟨n5, n6, n7, n8⟩ := cells3 HS5.out.2.2.2.2.2.1
            obtain ⟨f5, f6⟩ := froz3 HS5.out.2.2.2.2.2.1
            clear hc
            go_wp2_with fail
            exact ⟨⟨2, by omega, rfl, Lib.hid ⟨fun h => by omega, fun h => by omega, fun _ => ⟨HC0.out, HC1.out, _, (HS5.out.put HR5.out).num 1 n0 n1 0 n1 rfl⟩, fun h => by omega⟩⟩, by simp [intOf]⟩
          · have t4 : (c1 == 0) = false := by simpa using hc
            have t5 : (c1 != 0) = true := by simpa using hc
            have HKT : Hid (keyT G room ts t = (ts, (0, 0, 0), c1)) := Lib.hid (HKE.out.2.1 HC0.out hc)
            obtain ⟨q0, q1, q2, q3⟩ := cells2 HS5.out.2.2.2.2.1
            obtain ⟨y0, y1, y2, y3⟩ := cells2 HS5.out.2.2.1
            obtain ⟨u0, u1, u2, u3⟩ := cells3 HS5.out.2.2.2.1
            obtain ⟨u4, u5⟩ := froz3 HS5.out.2.2.2.1
            clear hc
            go_wp2_with fail
            refine bodyPost_ret (v := .tuple #[.agg #[.int .i64 room, .slice a0 ts.length cap], .agg #[.int .i64 0, .int .i64 0, .int .i64 0], .int .i64 c1]) (by simp [results, Try.results28, go_sem, y0, y1, u0, u1, u2]) rfl ?_
            unfold RKeyEnd
            rw [HKT.out]
            have h5 := HS5.out.fin (HR.out.below HS5.out.bel) (.int .i64 room) (.slice a0 ts.length cap) (.int .i64 0) (.int .i64 0) (.int .i64 0)
            exact ⟨_, rfl, h5.1, h5.2⟩
      · rw [show ((2 : Nat) : Int) = 2 from rfl]
        obtain ⟨hc0, hc1, V, hs⟩ := hb.out.2.2.1 rfl
        have HC0 := Lib.hid hc0
        have HC1 := Lib.hid hc1
        have HS := Lib.hid hs
        clear hb hc0 hc1 hs
        obtain ⟨bv, bc, rfl⟩ := HS.out.2.1.form
        have HX := Lib.hid (⟨HS.out.1, HS.out.2.2.2.2.2.2.1⟩ : _ ∧ _)
        go_wp2_with fail
        refine wp_region_held_drew (S := (fun w' => w'.heap[w.heap.size]? = some (.cells #[.int .i64 room, .slice bv (T2).length bc] 29 (0, 0)) ∧ w'.heap[o + 1 + 1]? = some (.cells #[.int .i64 (kindV t.s), .string (text0 t.s), .string (text1 t.s), .string (text2 t.s), .int .i64 (kindV t.p), .string (text0 t.p), .string (text1 t.p), .string (text2 t.p), .int .i64 (kindV t.o), .string (text0 t.o), .string (text1 t.o), .string (text2 t.o)] 98 (0, 0)))) (by kernel_rfl) ?hSput20 (fun hHeld => ?_)
        case hSput20 => exact HX.out
        refine wpAnyH_take (i := 0) (oi := ⟨some 32, _, _, _, _, _⟩) (v := ?vput20) rfl (by kernel_rfl) (by kernel_rfl) (by kernel_rfl) (fun _ _ _ h => h) (Or.inl ⟨by kernel_rfl, ?yput20⟩) (by assumption) ?rput20
        case yput20 =>
          intro w hSw
          try dsimp only at hSw
          obtain ⟨c0, c1, c2, c3⟩ := cells2 hSw.1; obtain ⟨z0, z1, z2, z3, z4, z5, z6, z7, z8, z9, z10, z11⟩ := cells12 hSw.2
          first | (go_simp; done) | (go_simp; with_reducible rfl)
        try simp only [Act.put, List.setIfInBounds_toArray, List.set_cons_zero, List.set_cons_succ]
        refine wpAnyH_take (i := 1) (oi := ⟨some 33, _, _, _, _, _⟩) (v := ?vput21) rfl (by kernel_rfl) (by kernel_rfl) (by kernel_rfl) (fun _ _ _ h => h) (Or.inl ⟨by kernel_rfl, ?yput21⟩) (by assumption) ?rput21
        case yput21 =>
          intro w hSw
          try dsimp only at hSw
          obtain ⟨c0, c1, c2, c3⟩ := cells2 hSw.1; obtain ⟨z0, z1, z2, z3, z4, z5, z6, z7, z8, z9, z10, z11⟩ := cells12 hSw.2
          first | (go_simp; done) | (go_simp; with_reducible rfl)
        try simp only [Act.put, List.setIfInBounds_toArray, List.set_cons_zero, List.set_cons_succ]
        refine wpAnyH_take (i := 2) (oi := ⟨some 34, _, _, _, _, _⟩) (v := ?vput22) rfl (by kernel_rfl) (by kernel_rfl) (by kernel_rfl) (fun _ _ _ h => h) (Or.inl ⟨by kernel_rfl, ?yput22⟩) (by assumption) ?rput22
        case yput22 =>
          intro w hSw
          try dsimp only at hSw
          obtain ⟨c0, c1, c2, c3⟩ := cells2 hSw.1; obtain ⟨z0, z1, z2, z3, z4, z5, z6, z7, z8, z9, z10, z11⟩ := cells12 hSw.2
          first | (go_simp; done) | (go_simp; with_reducible rfl)
        try simp only [Act.put, List.setIfInBounds_toArray, List.set_cons_zero, List.set_cons_succ]
        refine wpAnyH_take (i := 3) (oi := ⟨some 35, _, _, _, _, _⟩) (v := ?vput23) rfl (by kernel_rfl) (by kernel_rfl) (by kernel_rfl) (fun _ _ _ h => h) (Or.inl ⟨by kernel_rfl, ?yput23⟩) (by assumption) ?rput23
        case yput23 =>
          intro w hSw
          try dsimp only at hSw
          obtain ⟨c0, c1, c2, c3⟩ := cells2 hSw.1; obtain ⟨z0, z1, z2, z3, z4, z5, z6, z7, z8, z9, z10, z11⟩ := cells12 hSw.2
          first | (go_simp; done) | (go_simp; with_reducible rfl)
        try simp only [Act.put, List.setIfInBounds_toArray, List.set_cons_zero, List.set_cons_succ]
        refine wpAnyH_ready (rs := [4, 9]) (by kernel_rfl) (by simp) ?_
        refine AllReadyH.cons (i := 4) (o := ⟨some 36, _, _, _, _, _⟩) rfl (fun K hK => ?bput24) (AllReadyH.cons (i := 9) (o := ⟨some 11, _, _, _, _, _⟩) rfl (fun K hK => ?bput29) (AllReadyH.nil))
        case' bput24 =>
          go_simp
          refine (HPU2.out _ _ (HS.out.2.1.below (Below.refl _ _).drew)).mono ?_
          rintro e w5 ⟨V5, rfl, hr5, hb5⟩
          obtain ⟨a5, k5, rfl⟩ := hr5.form
          have G5 := Lib.hid (⟨hr5, (Below.refl _ wr).drew.trans hb5⟩ : _ ∧ _)
          go_wp2_with fail
          refine hK.out _ _ ?_ (fun hHeld => ?_)
          · exact keptb (by assumption) hb5
          clear hK K
          try simp only [Act.put, List.setIfInBounds_toArray, List.set_cons_zero, List.set_cons_succ]
          refine wpAnyH_take (i := 5) (oi := ⟨some 31, _, _, _, _, _⟩) (v := ?vput2p45) rfl (by kernel_rfl) (by kernel_rfl) (by kernel_rfl) (fun _ _ _ h => h) (Or.inl ⟨by kernel_rfl, ?yput2p45⟩) (by assumption) ?rput2p45
          case yput2p45 =>
            intro w hSw
            try dsimp only at hSw
            obtain ⟨c0, c1, c2, c3⟩ := cells2 hSw.1; obtain ⟨z0, z1, z2, z3, z4, z5, z6, z7, z8, z9, z10, z11⟩ := cells12 hSw.2
            first | (go_simp; done) | (go_simp; with_reducible rfl)
          try simp only [Act.put, List.setIfInBounds_toArray, List.set_cons_zero, List.set_cons_succ]
          refine wpAnyH_take (i := 6) (oi := ⟨some 37, _, _, _, _, _⟩) (v := ?vput2p46) rfl (by kernel_rfl) (by kernel_rfl) (by kernel_rfl) (fun _ _ _ h => h) (Or.inl ⟨by kernel_rfl, ?yput2p46⟩) (by assumption) ?rput2p46
          case yput2p46 =>
            intro w hSw
            try dsimp only at hSw
            obtain ⟨c0, c1, c2, c3⟩ := cells2 hSw.1; obtain ⟨z0, z1, z2, z3, z4, z5, z6, z7, z8, z9, z10, z11⟩ := cells12 hSw.2
            first | (go_simp; done) | (go_simp; with_reducible rfl)
          try simp only [Act.put, List.setIfInBounds_toArray, List.set_cons_zero, List.set_cons_succ]
          refine wpAnyH_take (i := 7) (oi := ⟨some 38, _, _, _, _, _⟩) (v := ?vput2p47) rfl (by kernel_rfl) (by kernel_rfl) (by kernel_rfl) (fun _ _ _ h => h) (Or.inl ⟨by kernel_rfl, ?yput2p47⟩) (by assumption) ?rput2p47
          case yput2p47 =>
            intro w hSw
            try dsimp only at hSw
            obtain ⟨c0, c1, c2, c3⟩ := cells2 hSw.1; obtain ⟨z0, z1, z2, z3, z4, z5, z6, z7, z8, z9, z10, z11⟩ := cells12 hSw.2
            first | (go_simp; done) | (go_simp; with_reducible rfl)
          try simp only [Act.put, List.setIfInBounds_toArray, List.set_cons_zero, List.set_cons_succ]
          refine wpAnyH_take (i := 8) (oi := ⟨some 39, _, _, _, _, _⟩) (v := ?vput2p48) rfl (by kernel_rfl) (by kernel_rfl) (by kernel_rfl) (fun _ _ _ h => h) (Or.inl ⟨by kernel_rfl, ?yput2p48⟩) (by assumption) ?rput2p48
          case yput2p48 =>
            intro w hSw
            try dsimp only at hSw
            obtain ⟨c0, c1, c2, c3⟩ := cells2 hSw.1; obtain ⟨z0, z1, z2, z3, z4, z5, z6, z7, z8, z9, z10, z11⟩ := cells12 hSw.2
            first | (go_simp; done) | (go_simp; with_reducible rfl)
          try simp only [Act.put, List.setIfInBounds_toArray, List.set_cons_zero, List.set_cons_succ]
          refine wpAnyH_ready (rs := [9]) (by kernel_rfl) (by simp) ?_
          refine AllReadyH.cons (i := 9) (o := ⟨some 11, _, _, _, _, _⟩) rfl (fun K hK => ?_) AllReadyH.nil
          go_simp
          refine hK.out _ _ ?_ (fun hHeld => ?_)
          · exact keptb (by assumption) ((Below.refl _ _).alloc (Nat.le_refl _) _)
          clear hK K
          try simp only [Act.put, List.setIfInBounds_toArray, List.set_cons_zero, List.set_cons_succ]
          refine wpAnyH_ready (rs := [10]) (by kernel_rfl) (by simp) ?_
          refine AllReadyH.cons (i := 10) (o := ⟨none, _, _, _, _, _⟩) rfl (fun K hK => ?_) AllReadyH.nil
          go_simp
          refine hK.out _ _ ?_ (fun hHeld => ?_)
          · exact keptb (w := w5) (by assumption) ((Below.refl w5.heap.size w5).alloc (Nat.le_refl _) _)
          clear hK K
          try simp only [Act.put, List.setIfInBounds_toArray, List.set_cons_zero, List.set_cons_succ]
          refine wpAnyH_take (i := 11) (oi := ⟨some 12, _, _, _, _, _⟩) (v := ?vput2p411) rfl (by kernel_rfl) (by kernel_rfl) (by kernel_rfl) (fun _ _ _ h => h) (Or.inl ⟨by kernel_rfl, ?yput2p411⟩) (by assumption) ?rput2p411
          case yput2p411 =>
            intro w hSw
            try dsimp only at hSw
            obtain ⟨c0, c1, c2, c3⟩ := cells2 hSw.1; obtain ⟨z0, z1, z2, z3, z4, z5, z6, z7, z8, z9, z10, z11⟩ := cells12 hSw.2
            first | (go_simp; done) | (go_simp; with_reducible rfl)
          try simp only [Act.put, List.setIfInBounds_toArray, List.set_cons_zero, List.set_cons_succ]
          refine wpAnyH_take (i := 12) (oi := ⟨some 13, _, _, _, _, _⟩) (v := ?vput2p412) rfl (by kernel_rfl) (by kernel_rfl) (by kernel_rfl) (fun _ _ _ h => h) (Or.inl ⟨by kernel_rfl, ?yput2p412⟩) (by assumption) ?rput2p412
          case yput2p412 =>
            intro w hSw
            try dsimp only at hSw
            obtain ⟨c0, c1, c2, c3⟩ := cells2 hSw.1; obtain ⟨z0, z1, z2, z3, z4, z5, z6, z7, z8, z9, z10, z11⟩ := cells12 hSw.2
            first | (go_simp; done) | (go_simp; with_reducible rfl)
          try simp only [Act.put, List.setIfInBounds_toArray, List.set_cons_zero, List.set_cons_succ]
          refine wpAnyH_done (by kernel_rfl) ?_ _
        case' bput29 =>
          go_simp
          refine hK.out _ _ ?_ (fun hHeld => ?_)
          · exact keptb (by assumption) ((Below.refl _ _).alloc (Nat.le_refl _) _)
          clear hK K
          try simp only [Act.put, List.setIfInBounds_toArray, List.set_cons_zero, List.set_cons_succ]
          refine wpAnyH_ready (rs := [4]) (by kernel_rfl) (by simp) ?_
          refine AllReadyH.cons (i := 4) (o := ⟨some 36, _, _, _, _, _⟩) rfl (fun K hK => ?_) AllReadyH.nil
          go_simp
          refine (HPU2.out _ _ (HS.out.2.1.below ((Below.refl _ wr).drew.alloc (Nat.le_refl _) _))).mono ?_
          rintro e w5 ⟨V5, rfl, hr5, hb5⟩
          obtain ⟨a5, k5, rfl⟩ := hr5.form
          have g1 : Below wr.heap.size wr (wr.drew.alloc (.cells #[.int .i64 0, .slice none 0 0] 29)) := (Below.refl _ wr).drew.alloc (Nat.le_refl _) _
          have G5 := Lib.hid (⟨hr5, g1.trans (hb5.mono g1.size)⟩ : _ ∧ _)
          have HN5 := Lib.hid (box_below (show (wr.drew.alloc (.cells #[.int .i64 0, .slice none 0 0] 29)).heap[wr.heap.size]? = some (.cells #[.int .i64 0, .slice none 0 0] 29 (0, 0)) from box_new wr.drew _ _) hb5)
          obtain ⟨y0, y1, y2, y3⟩ := cells2 HN5.out
          go_wp2_with fail
          refine hK.out _ _ ?_ (fun hHeld => ?_)
          · exact keptb (by assumption) hb5
          clear hK K
          try simp only [Act.put, List.setIfInBounds_toArray, List.set_cons_zero, List.set_cons_succ]
          refine wpAnyH_take (i := 5) (oi := ⟨some 31, _, _, _, _, _⟩) (v := ?vput2p95) rfl (by kernel_rfl) (by kernel_rfl) (by kernel_rfl) (fun _ _ _ h => h) (Or.inl ⟨by kernel_rfl, ?yput2p95⟩) (by assumption) ?rput2p95
          case yput2p95 =>
            intro w hSw
            try dsimp only at hSw
            obtain ⟨c0, c1, c2, c3⟩ := cells2 hSw.1; obtain ⟨z0, z1, z2, z3, z4, z5, z6, z7, z8, z9, z10, z11⟩ := cells12 hSw.2
            first | (go_simp; done) | (go_simp; with_reducible rfl)
          try simp only [Act.put, List.setIfInBounds_toArray, List.set_cons_zero, List.set_cons_succ]
          refine wpAnyH_take (i := 6) (oi := ⟨some 37, _, _, _, _, _⟩) (v := ?vput2p96) rfl (by kernel_rfl) (by kernel_rfl) (by kernel_rfl) (fun _ _ _ h => h) (Or.inl ⟨by kernel_rfl, ?yput2p96⟩) (by assumption) ?rput2p96
          case yput2p96 =>
            intro w hSw
            try dsimp only at hSw
            obtain ⟨c0, c1, c2, c3⟩ := cells2 hSw.1; obtain ⟨z0, z1, z2, z3, z4, z5, z6, z7, z8, z9, z10, z11⟩ := cells12 hSw.2
            first | (go_simp; done) | (go_simp; with_reducible rfl)
          try simp only [Act.put, List.setIfInBounds_toArray, List.set_cons_zero, List.set_cons_succ]
          refine wpAnyH_take (i := 7) (oi := ⟨some 38, _, _, _, _, _⟩) (v := ?vput2p97) rfl (by kernel_rfl) (by kernel_rfl) (by kernel_rfl) (fun _ _ _ h => h) (Or.inl ⟨by kernel_rfl, ?yput2p97⟩) (by assumption) ?rput2p97
          case yput2p97 =>
            intro w hSw
            try dsimp only at hSw
            obtain ⟨c0, c1, c2, c3⟩ := cells2 hSw.1; obtain ⟨z0, z1, z2, z3, z4, z5, z6, z7, z8, z9, z10, z11⟩ := cells12 hSw.2
            first | (go_simp; done) | (go_simp; with_reducible rfl)
          try simp only [Act.put, List.setIfInBounds_toArray, List.set_cons_zero, List.set_cons_succ]
          refine wpAnyH_take (i := 8) (oi := ⟨some 39, _, _, _, _, _⟩) (v := ?vput2p98) rfl (by kernel_rfl) (by kernel_rfl) (by kernel_rfl) (fun _ _ _ h => h) (Or.inl ⟨by kernel_rfl, ?yput2p98⟩) (by assumption) ?rput2p98
          case yput2p98 =>
            intro w hSw
            try dsimp only at hSw
            obtain ⟨c0, c1, c2, c3⟩ := cells2 hSw.1; obtain ⟨z0, z1, z2, z3, z4, z5, z6, z7, z8, z9, z10, z11⟩ := cells12 hSw.2
            first | (go_simp; done) | (go_simp; with_reducible rfl)
          try simp only [Act.put, List.setIfInBounds_toArray, List.set_cons_zero, List.set_cons_succ]
          refine wpAnyH_ready (rs := [10]) (by kernel_rfl) (by simp) ?_
          refine AllReadyH.cons (i := 10) (o := ⟨none, _, _, _, _, _⟩) rfl (fun K hK => ?_) AllReadyH.nil
          go_simp
          refine hK.out _ _ ?_ (fun hHeld => ?_)
          · exact keptb HX.out (below_store (below_store G5.out.2 (Nat.le_refl _)) (Nat.le_refl _))
          clear hK K
          try simp only [Act.put, List.setIfInBounds_toArray, List.set_cons_zero, List.set_cons_succ]
          refine wpAnyH_take (i := 11) (oi := ⟨some 12, _, _, _, _, _⟩) (v := ?vput2p911) rfl (by kernel_rfl) (by kernel_rfl) (by kernel_rfl) (fun _ _ _ h => h) (Or.inl ⟨by kernel_rfl, ?yput2p911⟩) (by assumption) ?rput2p911
          case yput2p911 =>
            intro w hSw
            try dsimp only at hSw
            obtain ⟨c0, c1, c2, c3⟩ := cells2 hSw.1; obtain ⟨z0, z1, z2, z3, z4, z5, z6, z7, z8, z9, z10, z11⟩ := cells12 hSw.2
            first | (go_simp; done) | (go_simp; with_reducible rfl)
          try simp only [Act.put, List.setIfInBounds_toArray, List.set_cons_zero, List.set_cons_succ]
          refine wpAnyH_take (i := 12) (oi := ⟨some 13, _, _, _, _, _⟩) (v := ?vput2p912) rfl (by kernel_rfl) (by kernel_rfl) (by kernel_rfl) (fun _ _ _ h => h) (Or.inl ⟨by kernel_rfl, ?yput2p912⟩) (by assumption) ?rput2p912
          case yput2p912 =>
            intro w hSw
            try dsimp only at hSw
            obtain ⟨c0, c1, c2, c3⟩ := cells2 hSw.1; obtain ⟨z0, z1, z2, z3, z4, z5, z6, z7, z8, z9, z10, z11⟩ := cells12 hSw.2
            first | (go_simp; done) | (go_simp; with_reducible rfl)
          try simp only [Act.put, List.setIfInBounds_toArray, List.set_cons_zero, List.set_cons_succ]
          refine wpAnyH_done (by kernel_rfl) ?_ _
        case bput29 =>
          obtain ⟨W5, hW5⟩ : ∃ W5, W5 = (w5.setCell ⟨wr.heap.size, 0, none⟩ (.int .i64 room)).setCell ⟨wr.heap.size, 1, none⟩ (.slice a5 (T3).length k5) := ⟨_, rfl⟩
          have hb : Below wr.heap.size wr W5 := by rw [hW5]; exact below_store (below_store G5.out.2 (Nat.le_refl _)) (Nat.le_refl _)
          have hr : DocRow W5 0 (.slice a5 (T3).length k5) T3 := by rw [hW5]; exact (G5.out.1.set_other HN5.out (by decide) _).set_other (set_any (i := 0) HN5.out _) (by decide) _
          have hq : W5.heap[wr.heap.size]? = some (.cells #[.int .i64 room, .slice a5 (T3).length k5] 29 (0, 0)) := by rw [hW5]; exact box_set2 HN5.out _ _
          rw [← hW5]
          clear y0 y1 y2 y3 hW5
          have HS5 := Lib.hid (HS.out.below hb)
          have HR5 := Lib.hid hr
          have HQ5 := Lib.hid hq
          have hne : o + 1 ≠ w.heap.size := by have := HS.out.2.2.2.2.2.2.2.2; omega
          obtain ⟨x0, x1, x2, x3⟩ := cells2 HS5.out.1
          clear hb hr hq
          by_cases hc : c2 = 0
          · have t4 : (c2 == 0) = true := by simp [hc]
            have t5 : (c2 != 0) = false := by simp [hc]
            have HC2 := Lib.hid hc
            obtain ⟨q0, q1, q2, q3⟩ := cells2 HQ5.out
            obtain ⟨n5, n6, n7, n8⟩ := cells3 HS5.out.2.2.2.2.2.1
            obtain ⟨f5, f6⟩ := froz3 HS5.out.2.2.2.2.2.1
            clear hc
            go_wp2_with fail
            exact ⟨⟨3, by omega, rfl, Lib.hid ⟨fun h => by omega, fun h => by omega, fun h => by omega, fun _ => ⟨HC0.out, HC1.out, HC2.out, _, (HS5.out.put HR5.out).num 2 n0 n1 n2 n2 rfl⟩⟩⟩, by simp [intOf]⟩
          · have t4 : (c2 == 0) = false := by simpa using hc
            have t5 : (c2 != 0) = true := by simpa using hc
            have HKT : Hid (keyT G room ts t = (ts, (0, 0, 0), c2)) := Lib.hid (HKE.out.2.2.1 HC0.out HC1.out hc)
            obtain ⟨q0, q1, q2, q3⟩ := cells2 HS5.out.2.2.2.2.1
            obtain ⟨y0, y1, y2, y3⟩ := cells2 HS5.out.2.2.1
            obtain ⟨u0, u1, u2, u3⟩ := cells3 HS5.out.2.2.2.1
            obtain ⟨u4, u5⟩ := froz3 HS5.out.2.2.2.1
            clear hc
            go_wp2_with fail
            refine bodyPost_ret (v := .tuple #[.agg #[.int .i64 room, .slice a0 ts.length cap], .agg #[.int .i64 0, .int .i64 0, .int .i64 0], .int .i64 c2]) (by simp [results, Try.results28, go_sem, y0, y1, u0, u1, u2]) rfl ?_
            unfold RKeyEnd
            rw [HKT.out]
            have h5 := HS5.out.fin (HR.out.below HS5.out.bel) (.int .i64 room) (.slice a0 ts.length cap) (.int .i64 0) (.int .i64 0) (.int .i64 0)
            exact ⟨_, rfl, h5.1, h5.2⟩
        case bput24 =>
          obtain ⟨W5, hW5⟩ : ∃ W5, W5 = w5.alloc (.cells #[.int .i64 room, .slice a5 (T3).length k5] 29) := ⟨_, rfl⟩
          have hb : Below wr.heap.size wr W5 := by rw [hW5]; exact G5.out.2.alloc G5.out.2.size _
          have hr : DocRow W5 0 (.slice a5 (T3).length k5) T3 := by rw [hW5]; exact G5.out.1.below ((Below.refl _ _).alloc (Nat.le_refl _) _)
          have hq : W5.heap[w5.heap.size]? = some (.cells #[.int .i64 room, .slice a5 (T3).length k5] 29 (0, 0)) := by rw [hW5]; exact box_new w5 _ _
          rw [← hW5]
          clear hW5
          have HS5 := Lib.hid (HS.out.below hb)
          have HR5 := Lib.hid hr
          have HQ5 := Lib.hid hq
          have hne : o + 1 ≠ w.heap.size := by have := HS.out.2.2.2.2.2.2.2.2; omega
          obtain ⟨x0, x1, x2, x3⟩ := cells2 HS5.out.1
          clear hb hr hq
          by_cases hc : c2 = 0
          · have t4 : (c2 == 0) = true := by simp [hc]
            have t5 : (c2 != 0) = false := by simp [hc]
            have HC2 := Lib.hid hc
            obtain ⟨q0, q1, q2, q3⟩ := cells2 HQ5.out
            obtain ⟨n5, n6, n7, n8⟩ := cells3 HS5.out.2.2.2.2.2.1
            obtain ⟨f5, f6⟩ := froz3 HS5.out.2.2.2.2.2.1
            clear hc
            go_wp2_with fail
            exact ⟨⟨3, by omega, rfl, Lib.hid ⟨fun h => by omega, fun h => by omega, fun h => by omega, fun _ => ⟨HC0.out, HC1.out, HC2.out, _, (HS5.out.put HR5.out).num 2 n0 n1 n2 n2 rfl⟩⟩⟩, by simp [intOf]⟩
          · have t4 : (c2 == 0) = false := by simpa using hc
            have t5 : (c2 != 0) = true := by simpa using hc
            have HKT : Hid (keyT G room ts t = (ts, (0, 0, 0), c2)) := Lib.hid (HKE.out.2.2.1 HC0.out HC1.out hc)
            obtain ⟨q0, q1, q2, q3⟩ := cells2 HS5.out.2.2.2.2.1
            obtain ⟨y0, y1, y2, y3⟩ := cells2 HS5.out.2.2.1
            obtain ⟨u0, u1, u2, u3⟩ := cells3 HS5.out.2.2.2.1
            obtain ⟨u4, u5⟩ := froz3 HS5.out.2.2.2.1
            clear hc
            go_wp2_with fail
            refine bodyPost_ret (v := .tuple #[.agg #[.int .i64 room, .slice a0 ts.length cap], .agg #[.int .i64 0, .int .i64 0, .int .i64 0], .int .i64 c2]) (by simp [results, Try.results28, go_sem, y0, y1, u0, u1, u2]) rfl ?_
            unfold RKeyEnd
            rw [HKT.out]
            have h5 := HS5.out.fin (HR.out.below HS5.out.bel) (.int .i64 room) (.slice a0 ts.length cap) (.int .i64 0) (.int .i64 0) (.int .i64 0)
            exact ⟨_, rfl, h5.1, h5.2⟩
      · rw [show ((3 : Nat) : Int) = 3 from rfl]
        obtain ⟨hc0, hc1, hc2, V, hs⟩ := hb.out.2.2.2 rfl
        have HKT : Hid (keyT G room ts t = (T3, (n0, n1, n2), 0)) := Lib.hid (HKE.out.2.2.2 hc0 hc1 hc2)
        have HS := Lib.hid hs
        clear hb hc0 hc1 hc2 hs
        obtain ⟨bv, bc, rfl⟩ := HS.out.2.1.form
        obtain ⟨x0, x1, x2, x3⟩ := cells2 HS.out.1
        obtain ⟨n5, n6, n7, n8⟩ := cells3 HS.out.2.2.2.2.2.1
        obtain ⟨y0, y1, y2, y3⟩ := cells2 HS.out.2.2.1
        obtain ⟨u0, u1, u2, u3⟩ := cells3 HS.out.2.2.2.1
        obtain ⟨u4, u5⟩ := froz3 HS.out.2.2.2.1
        have HX := Lib.hid (⟨HS.out.1, HS.out.2.2.2.2.2.1⟩ : _ ∧ _)
        have hne1 : w.heap.size ≠ w.heap.size + 1 + 1 := by omega
        have hne2 : o + 1 ≠ w.heap.size + 1 + 1 := by have := HS.out.2.2.2.2.2.2.2.2; omega
        have hne3 : w.heap.size ≠ w.heap.size + 1 + 1 + 1 := by omega
        have hne4 : o + 1 ≠ w.heap.size + 1 + 1 + 1 := by have := HS.out.2.2.2.2.2.2.2.2; omega
        have HNE := Lib.hid (⟨hne1, hne2, hne3, hne4⟩ : _ ∧ _ ∧ _ ∧ _)
        clear hne1 hne2 hne3 hne4 x0 x1 x2 x3 n5 n6 n7 n8
        go_wp2_with fail
        refine wp_region_held_drew (S := (fun w' => w'.heap[w.heap.size]? = some (.cells #[.int .i64 room, .slice bv (T3).length bc] 29 (0, 0)) ∧ w'.heap[o + 1]? = some (.cells #[.int .i64 n0, .int .i64 n1, .int .i64 n2] 53 (0, 0)))) (by kernel_rfl) ?hSfin0 (fun hHeld => ?_)
        case hSfin0 => exact HX.out
        refine wpAnyH_take (i := 0) (oi := ⟨some 50, _, _, _, _, _⟩) (v := ?vfin0) rfl (by kernel_rfl) (by kernel_rfl) (by kernel_rfl) (fun _ _ _ h => h) (Or.inl ⟨by kernel_rfl, ?yfin0⟩) (by assumption) ?rfin0
        case yfin0 =>
          intro w hSw
          try dsimp only at hSw
          obtain ⟨c0, c1, c2, c3⟩ := cells2 hSw.1; obtain ⟨z0, z1, z2, z3⟩ := cells3 hSw.2
          first | (go_simp; done) | (go_simp; with_reducible rfl)
        try simp only [Act.put, List.setIfInBounds_toArray, List.set_cons_zero, List.set_cons_succ]
        refine wpAnyH_take (i := 1) (oi := ⟨some 51, _, _, _, _, _⟩) (v := ?vfin1) rfl (by kernel_rfl) (by kernel_rfl) (by kernel_rfl) (fun _ _ _ h => h) (Or.inl ⟨by kernel_rfl, ?yfin1⟩) (by assumption) ?rfin1
        case yfin1 =>
          intro w hSw
          try dsimp only at hSw
          obtain ⟨c0, c1, c2, c3⟩ := cells2 hSw.1; obtain ⟨z0, z1, z2, z3⟩ := cells3 hSw.2
          first | (go_simp; done) | (go_simp; with_reducible rfl)
        try simp only [Act.put, List.setIfInBounds_toArray, List.set_cons_zero, List.set_cons_succ]
        refine wpAnyH_ready (rs := [2]) (by kernel_rfl) (by simp) ?_
        refine AllReadyH.cons (i := 2) (o := ⟨none, _, _, _, _, _⟩) rfl (fun K hK => ?_) AllReadyH.nil
        go_simp
        refine hK.out _ _ ?_ (fun hHeld => ?_)
        · exact ⟨drew_box (box_other (box_other HX.out.1 HNE.out.1) HNE.out.1), drew_box (box_other (box_other HX.out.2 HNE.out.2.1) HNE.out.2.1)⟩
        clear hK K
        try simp only [Act.put, List.setIfInBounds_toArray, List.set_cons_zero, List.set_cons_succ]
        refine wpAnyH_ready (rs := [3]) (by kernel_rfl) (by simp) ?_
        refine AllReadyH.cons (i := 3) (o := ⟨none, _, _, _, _, _⟩) rfl (fun K hK => ?_) AllReadyH.nil
        go_simp
        refine hK.out _ _ ?_ (fun hHeld => ?_)
        · exact ⟨drew_box (box_other (box_other (box_other (box_other (box_other HX.out.1 HNE.out.1) HNE.out.1) HNE.out.2.2.1) HNE.out.2.2.1) HNE.out.2.2.1), drew_box (box_other (box_other (box_other (box_other (box_other HX.out.2 HNE.out.2.1) HNE.out.2.1) HNE.out.2.2.2) HNE.out.2.2.2) HNE.out.2.2.2)⟩
        clear hK K
        try simp only [Act.put, List.setIfInBounds_toArray, List.set_cons_zero, List.set_cons_succ]
        refine wpAnyH_take (i := 4) (oi := ⟨some 6, _, _, _, _, _⟩) (v := ?vfin4) rfl (by kernel_rfl) (by kernel_rfl) (by kernel_rfl) (fun _ _ _ h => h) (Or.inl ⟨by kernel_rfl, ?yfin4⟩) (by assumption) ?rfin4
        case yfin4 =>
          intro w hSw
          try dsimp only at hSw
          obtain ⟨c0, c1, c2, c3⟩ := cells2 hSw.1; obtain ⟨z0, z1, z2, z3⟩ := cells3 hSw.2
          first | (go_simp; done) | (go_simp; with_reducible rfl)
        try simp only [Act.put, List.setIfInBounds_toArray, List.set_cons_zero, List.set_cons_succ]
        refine wpAnyH_done (by kernel_rfl) ?_ _
        go_wp2_with fail
        refine bodyPost_ret (v := .tuple #[.agg #[.int .i64 room, .slice bv T3.length bc], .agg #[.int .i64 n0, .int .i64 n1, .int .i64 n2], .int .i64 0]) (by simp [results, Try.results28, go_sem, y0, y1, u0, u1, u2]) rfl ?_
        unfold RKeyEnd
        rw [HKT.out]
        have h5 := HS.out.fin HS.out.2.1 (.int .i64 room) (.slice bv T3.length bc) (.int .i64 n0) (.int .i64 n1) (.int .i64 n2)
        exact ⟨_, rfl, h5.1.below (Below.refl _ _).drew, h5.2.drew⟩
end Go.Proofs.Ytghimladdioajaa
namespace Go.Proofs.Ytghimladdioajaa
open Go Go.RowKit
set_option linter.unusedVariables false
set_option linter.unusedSimpArgs false
set_option maxRecDepth 100000
def rzero3 : Value := .agg #[.int .i64 0, .string ⟨#[]⟩, .string ⟨#[]⟩, .string ⟨#[]⟩, .int .i64 0, .string ⟨#[]⟩, .string ⟨#[]⟩, .string ⟨#[]⟩, .int .i64 0, .string ⟨#[]⟩, .string ⟨#[]⟩, .string ⟨#[]⟩]
/-- the document's answer: a triple, or an empty one -/
def rtripV (r : Tri × Int) : Value := if r.2 = 0 then rtriV r.1 else rzero3
theorem drew_boxT {w : World} {b : Nat} {o : Obj} (h : w.heap[b]? = some o) : w.drew.heap[b]? = some o := h
theorem below_at {w w' : World} {b i : Nat} {v : Value} (h : Below w.heap.size w w') (hn : w.heap.size ≤ b) : Below w.heap.size w (w'.setCell ⟨b, i, none⟩ v) := h.setCell (p := ⟨b, i, none⟩) hn v
theorem below12 {w w' : World} {b : Nat} (h : Below w.heap.size w w') (hn : w.heap.size ≤ b) (v0 v1 v2 v3 v4 v5 v6 v7 v8 v9 v10 v11 : Value) : Below w.heap.size w ((((((((((((w'.setCell ⟨b, 0, none⟩ v0).setCell ⟨b, 1, none⟩ v1).setCell ⟨b, 2, none⟩ v2).setCell ⟨b, 3, none⟩ v3).setCell ⟨b, 4, none⟩ v4).setCell ⟨b, 5, none⟩ v5).setCell ⟨b, 6, none⟩ v6).setCell ⟨b, 7, none⟩ v7).setCell ⟨b, 8, none⟩ v8).setCell ⟨b, 9, none⟩ v9).setCell ⟨b, 10, none⟩ v10).setCell ⟨b, 11, none⟩ v11) := (below_at (i := 11) (v := v11) (below_at (i := 10) (v := v10) (below_at (i := 9) (v := v9) (below_at (i := 8) (v := v8) (below_at (i := 7) (v := v7) (below_at (i := 6) (v := v6) (below_at (i := 5) (v := v5) (below_at (i := 4) (v := v4) (below_at (i := 3) (v := v3) (below_at (i := 2) (v := v2) (below_at (i := 1) (v := v1) (below_at (i := 0) (v := v0) h hn) hn) hn) hn) hn) hn) hn) hn) hn) hn) hn) hn)
theorem froz12 {w : World} {p : Nat} {cs : Array Value} {T : TypeId} (h1 : w.heap[p]? = some (.cells cs T (0, 0))) : w.frozen? ⟨p, 0, none⟩ = false ∧ w.frozen? ⟨p, 1, none⟩ = false ∧ w.frozen? ⟨p, 2, none⟩ = false ∧ w.frozen? ⟨p, 3, none⟩ = false ∧ w.frozen? ⟨p, 4, none⟩ = false ∧ w.frozen? ⟨p, 5, none⟩ = false ∧ w.frozen? ⟨p, 6, none⟩ = false ∧ w.frozen? ⟨p, 7, none⟩ = false ∧ w.frozen? ⟨p, 8, none⟩ = false ∧ w.frozen? ⟨p, 9, none⟩ = false ∧ w.frozen? ⟨p, 10, none⟩ = false ∧ w.frozen? ⟨p, 11, none⟩ = false := by
  refine ⟨?_, ?_, ?_, ?_, ?_, ?_, ?_, ?_, ?_, ?_, ?_, ?_⟩ <;> simp [World.frozen?, h1]
theorem kept16 {w1 w2 : World} {a0 a1 a2 a3 a4 a5 a6 a7 a8 a9 a10 a11 a12 a13 a14 a15 : Addr} {v0 v1 v2 v3 v4 v5 v6 v7 v8 v9 v10 v11 v12 v13 v14 v15 : Value} (h : w1.cell? a0 = some v0 ∧ w1.cell? a1 = some v1 ∧ w1.cell? a2 = some v2 ∧ w1.cell? a3 = some v3 ∧ w1.cell? a4 = some v4 ∧ w1.cell? a5 = some v5 ∧ w1.cell? a6 = some v6 ∧ w1.cell? a7 = some v7 ∧ w1.cell? a8 = some v8 ∧ w1.cell? a9 = some v9 ∧ w1.cell? a10 = some v10 ∧ w1.cell? a11 = some v11 ∧ w1.cell? a12 = some v12 ∧ w1.cell? a13 = some v13 ∧ w1.cell? a14 = some v14 ∧ w1.cell? a15 = some v15) (hb : Below w1.heap.size w1 w2) :
    w2.cell? a0 = some v0 ∧ w2.cell? a1 = some v1 ∧ w2.cell? a2 = some v2 ∧ w2.cell? a3 = some v3 ∧ w2.cell? a4 = some v4 ∧ w2.cell? a5 = some v5 ∧ w2.cell? a6 = some v6 ∧ w2.cell? a7 = some v7 ∧ w2.cell? a8 = some v8 ∧ w2.cell? a9 = some v9 ∧ w2.cell? a10 = some v10 ∧ w2.cell? a11 = some v11 ∧ w2.cell? a12 = some v12 ∧ w2.cell? a13 = some v13 ∧ w2.cell? a14 = some v14 ∧ w2.cell? a15 = some v15 := by
  obtain ⟨h0, h1, h2, h3, h4, h5, h6, h7, h8, h9, h10, h11, h12, h13, h14, h15⟩ := h
  exact ⟨cell_below h0 hb, cell_below h1 hb, cell_below h2 hb, cell_below h3 hb, cell_below h4 hb, cell_below h5 hb, cell_below h6 hb, cell_below h7 hb, cell_below h8 hb, cell_below h9 hb, cell_below h10 hb, cell_below h11 hb, cell_below h12 hb, cell_below h13 hb, cell_below h14 hb, cell_below h15 hb⟩
theorem set_anyT {w : World} {b i : Nat} {cs : Array Value} {T : TypeId} (h : w.heap[b]? = some (.cells cs T (0, 0))) (v : Value) : (w.setCell ⟨b, i, none⟩ v).heap[b]? = some (.cells (cs.setIfInBounds i v) T (0, 0)) := by
  have hlt := lt_heap h
  have h' : w.heap[b] = .cells cs T (0, 0) := by simpa [Array.getElem?_eq_getElem hlt] using h
  show (w.heap.modify b _)[b]? = _
  rw [Array.getElem?_eq_getElem (by simpa using hlt), Array.getElem_modify_self, h']
  rfl
theorem set12 {w : World} {b : Nat} {T : TypeId} {c0 c1 c2 c3 c4 c5 c6 c7 c8 c9 c10 c11 : Value} (h : w.heap[b]? = some (.cells #[c0, c1, c2, c3, c4, c5, c6, c7, c8, c9, c10, c11] T (0, 0))) (v0 v1 v2 v3 v4 v5 v6 v7 v8 v9 v10 v11 : Value) : ((((((((((((w.setCell ⟨b, 0, none⟩ v0).setCell ⟨b, 1, none⟩ v1).setCell ⟨b, 2, none⟩ v2).setCell ⟨b, 3, none⟩ v3).setCell ⟨b, 4, none⟩ v4).setCell ⟨b, 5, none⟩ v5).setCell ⟨b, 6, none⟩ v6).setCell ⟨b, 7, none⟩ v7).setCell ⟨b, 8, none⟩ v8).setCell ⟨b, 9, none⟩ v9).setCell ⟨b, 10, none⟩ v10).setCell ⟨b, 11, none⟩ v11).heap[b]? = some (.cells #[v0, v1, v2, v3, v4, v5, v6, v7, v8, v9, v10, v11] T (0, 0)) := by
  have l0 : (#[c0, c1, c2, c3, c4, c5, c6, c7, c8, c9, c10, c11] : Array Value).setIfInBounds 0 v0 = #[v0, c1, c2, c3, c4, c5, c6, c7, c8, c9, c10, c11] := rfl
  have s0 := set_anyT (i := 0) h v0
  rw [l0] at s0
  have l1 : (#[v0, c1, c2, c3, c4, c5, c6, c7, c8, c9, c10, c11] : Array Value).setIfInBounds 1 v1 = #[v0, v1, c2, c3, c4, c5, c6, c7, c8, c9, c10, c11] := rfl
  have s1 := set_anyT (i := 1) s0 v1
  rw [l1] at s1
  have l2 : (#[v0, v1, c2, c3, c4, c5, c6, c7, c8, c9, c10, c11] : Array Value).setIfInBounds 2 v2 = #[v0, v1, v2, c3, c4, c5, c6, c7, c8, c9, c10, c11] := rfl
  have s2 := set_anyT (i := 2) s1 v2
  rw [l2] at s2
  have l3 : (#[v0, v1, v2, c3, c4, c5, c6, c7, c8, c9, c10, c11] : Array Value).setIfInBounds 3 v3 = #[v0, v1, v2, v3, c4, c5, c6, c7, c8, c9, c10, c11] := rfl
  have s3 := set_anyT (i := 3) s2 v3
  rw [l3] at s3
  have l4 : (#[v0, v1, v2, v3, c4, c5, c6, c7, c8, c9, c10, c11] : Array Value).setIfInBounds 4 v4 = #[v0, v1, v2, v3, v4, c5, c6, c7, c8, c9, c10, c11] := rfl
  have s4 := set_anyT (i := 4) s3 v4
  rw [l4] at s4
  have l5 : (#[v0, v1, v2, v3, v4, c5, c6, c7, c8, c9, c10, c11] : Array Value).setIfInBounds 5 v5 = #[v0, v1, v2, v3, v4, v5, c6, c7, c8, c9, c10, c11] := rfl
  have s5 := set_anyT (i := 5) s4 v5
  rw [l5] at s5
  have l6 : (#[v0, v1, v2, v3, v4, v5, c6, c7, c8, c9, c10, c11] : Array Value).setIfInBounds 6 v6 = #[v0, v1, v2, v3, v4, v5, v6, c7, c8, c9, c10, c11] := rfl
  have s6 := set_anyT (i := 6) s5 v6
  rw [l6] at s6
  have l7 : (#[v0, v1, v2, v3, v4, v5, v6, c7, c8, c9, c10, c11] : Array Value).setIfInBounds 7 v7 = #[v0, v1, v2, v3, v4, v5, v6, v7, c8, c9, c10, c11] := rfl
  have s7 := set_anyT (i := 7) s6 v7
  rw [l7] at s7
  have l8 : (#[v0, v1, v2, v3, v4, v5, v6, v7, c8, c9, c10, c11] : Array Value).setIfInBounds 8 v8 = #[v0, v1, v2, v3, v4, v5, v6, v7, v8, c9, c10, c11] := rfl
  have s8 := set_anyT (i := 8) s7 v8
  rw [l8] at s8
  have l9 : (#[v0, v1, v2, v3, v4, v5, v6, v7, v8, c9, c10, c11] : Array Value).setIfInBounds 9 v9 = #[v0, v1, v2, v3, v4, v5, v6, v7, v8, v9, c10, c11] := rfl
  have s9 := set_anyT (i := 9) s8 v9
  rw [l9] at s9
  have l10 : (#[v0, v1, v2, v3, v4, v5, v6, v7, v8, v9, c10, c11] : Array Value).setIfInBounds 10 v10 = #[v0, v1, v2, v3, v4, v5, v6, v7, v8, v9, v10, c11] := rfl
  have s10 := set_anyT (i := 10) s9 v10
  rw [l10] at s10
  have l11 : (#[v0, v1, v2, v3, v4, v5, v6, v7, v8, v9, v10, c11] : Array Value).setIfInBounds 11 v11 = #[v0, v1, v2, v3, v4, v5, v6, v7, v8, v9, v10, v11] := rfl
  have s11 := set_anyT (i := 11) s10 v11
  rw [l11] at s11
  exact s11
set_option maxHeartbeats 6400000 in
theorem rtrip_any {G : Tm → Bool} (hG : GoodFn G) (room : Int) (V : Value) (ts : List Tm) (a b c : Int) (w : World) (h : DocRow w 0 V ts) (hf : Fine G ts) (hl : ts.length ≤ 100000) :
    Calls Try.prog 29 #[.agg #[.int .i64 room, V], .agg #[.int .i64 a, .int .i64 b, .int .i64 c]] w fun e w' => e = .returned (.tuple #[rtripV (tripT G ts a b c), .int .i64 (tripT G ts a b c).2]) ∧ Below w.heap.size w w' := by
  obtain ⟨a0, cap, rfl⟩ := h.form
  obtain ⟨W0, hW0⟩ : ∃ W0, W0 = ((w.alloc (.cells #[.int .i64 room, .slice a0 ts.length cap] 29)).alloc (.cells #[.int .i64 a, .int .i64 b, .int .i64 c] 53)).alloc (.cells #[.int .i64 0, .string ⟨#[]⟩, .string ⟨#[]⟩, .string ⟨#[]⟩, .int .i64 0, .string ⟨#[]⟩, .string ⟨#[]⟩, .string ⟨#[]⟩, .int .i64 0, .string ⟨#[]⟩, .string ⟨#[]⟩, .string ⟨#[]⟩] 51) := ⟨_, rfl⟩
  have hbw : Below w.heap.size w W0 := by rw [hW0]; go_grown
  have hbx : W0.heap[w.heap.size]? = some (.cells #[.int .i64 room, .slice a0 ts.length cap] 29 (0, 0)) := by rw [hW0]; exact box_alloc (box_alloc (box_new _ _ _))
  have hbk : W0.heap[w.heap.size + 1]? = some (.cells #[.int .i64 a, .int .i64 b, .int .i64 c] 53 (0, 0)) := by
    rw [hW0]
    have := box_new (w.alloc (.cells #[.int .i64 room, .slice a0 ts.length cap] 29)) #[.int .i64 a, .int .i64 b, .int .i64 c] 53
    exact box_alloc (by simpa using this)
  have hbz : W0.heap[w.heap.size + 1 + 1]? = some (.cells #[.int .i64 0, .string ⟨#[]⟩, .string ⟨#[]⟩, .string ⟨#[]⟩, .int .i64 0, .string ⟨#[]⟩, .string ⟨#[]⟩, .string ⟨#[]⟩, .int .i64 0, .string ⟨#[]⟩, .string ⟨#[]⟩, .string ⟨#[]⟩] 51 (0, 0)) := by
    rw [hW0]
    have := box_new ((w.alloc (.cells #[.int .i64 room, .slice a0 ts.length cap] 29)).alloc (.cells #[.int .i64 a, .int .i64 b, .int .i64 c] 53)) #[.int .i64 0, .string ⟨#[]⟩, .string ⟨#[]⟩, .string ⟨#[]⟩, .int .i64 0, .string ⟨#[]⟩, .string ⟨#[]⟩, .string ⟨#[]⟩, .int .i64 0, .string ⟨#[]⟩, .string ⟨#[]⟩, .string ⟨#[]⟩] 51
    simpa using this
  have hsz : W0.heap.size = w.heap.size + 3 := by rw [hW0]; simp
  have HH := Lib.hid (⟨hbw, hbx, hbk, hbz⟩ : _ ∧ _ ∧ _ ∧ _)
  have HW0 := Lib.hid hW0
  have HSZ := Lib.hid hsz
  have HR := Lib.hid h
  have HL := Lib.hid hl
  have HF := Lib.hid hf
  have HG := Lib.hid hG
  have hl0 : ts.length ≤ 100000 := hl
  clear hbw hbx hbk hbz hW0 hsz h hl hf hG
  go_enter Try.func29, Try.ntmps29
  go_wp2_with fail
  rw [← HW0.out]
  go_loopw [8] (fun i wr => ∃ j : Nat, j ≤ 3 ∧ i = .int .i64 j ∧ Hid (Below W0.heap.size W0 wr ∧ (0 < j → hasN a ts.length = true) ∧ (1 < j → hasN b ts.length = true) ∧ (2 < j → hasN c ts.length = true))) (fun i _ => 3 - (intOf i).toNat)
  case atStart => exact ⟨0, by omega, rfl, Lib.hid ⟨Below.refl _ _, fun h => by omega, fun h => by omega, fun h => by omega⟩⟩
  case round =>
    obtain ⟨j, hj, rfl, hb⟩ := hrel
    have HX := Lib.hid (box_below HH.out.2.1 hb.out.1)
    have HK := Lib.hid (box_below HH.out.2.2.1 hb.out.1)
    have HZ := Lib.hid (box_below HH.out.2.2.2 hb.out.1)
    have HB := Lib.hid (HH.out.1.trans (hb.out.1.mono HH.out.1.size))
    rcases (by omega : j = 0 ∨ j = 1 ∨ j = 2 ∨ j = 3) with rfl | rfl | rfl | rfl
    · rw [show ((0 : Nat) : Int) = 0 from rfl]
      obtain ⟨x0, x1, x2, x3⟩ := cells2 HX.out
      obtain ⟨k0, k1, k2, k3⟩ := cells3 HK.out
      by_cases hneg : a < 0
      · have q1 : decide (a < 0) = true := decide_eq_true hneg
        have hno : hasN a ts.length = false := by unfold hasN; simp; omega
        have HV : Hid (tripT G ts a b c = (⟨.none, .none, .none⟩, 4)) := Lib.hid (by unfold tripT; rw [if_neg (by simp [hno])])
        clear hneg hno
        go_wp2_with fail
        refine wp_region_held_drew (S := (fun w' => w'.cell? ⟨w.heap.size, 1, none⟩ = some (.slice a0 ts.length cap) ∧ w'.cell? ⟨w.heap.size + 1, 0, none⟩ = some (.int .i64 a) ∧ w'.cell? ⟨w.heap.size + 1, 1, none⟩ = some (.int .i64 b) ∧ w'.cell? ⟨w.heap.size + 1, 2, none⟩ = some (.int .i64 c))) (by kernel_rfl) ?hSpaneg0 (fun hHeld => ?_)
        case hSpaneg0 => exact ⟨x1, k0, k1, k2⟩
        refine wpAnyH_take (i := 0) (oi := ⟨some 11, _, _, _, _, _⟩) (v := ?vpaneg0) rfl (by kernel_rfl) (by kernel_rfl) (by kernel_rfl) (fun _ _ _ h => h) (Or.inl ⟨by kernel_rfl, ?ypaneg0⟩) (by assumption) ?rpaneg0
        case ypaneg0 =>
          intro w hSw
          try dsimp only at hSw
          first | (go_simp; done) | (go_simp; with_reducible rfl)
        try simp only [Act.put, List.setIfInBounds_toArray, List.set_cons_zero, List.set_cons_succ]
        refine wpAnyH_take (i := 1) (oi := ⟨some 12, _, _, _, _, _⟩) (v := ?vpaneg1) rfl (by kernel_rfl) (by kernel_rfl) (by kernel_rfl) (fun _ _ _ h => h) (Or.inl ⟨by kernel_rfl, ?ypaneg1⟩) (by assumption) ?rpaneg1
        case ypaneg1 =>
          intro w hSw
          try dsimp only at hSw
          first | (go_simp; done) | (go_simp; with_reducible rfl)
        try simp only [Act.put, List.setIfInBounds_toArray, List.set_cons_zero, List.set_cons_succ]
        refine wpAnyH_take (i := 2) (oi := ⟨some 13, _, _, _, _, _⟩) (v := ?vpaneg2) rfl (by kernel_rfl) (by kernel_rfl) (by kernel_rfl) (fun _ _ _ h => h) (Or.inl ⟨by kernel_rfl, ?ypaneg2⟩) (by assumption) ?rpaneg2
        case ypaneg2 =>
          intro w hSw
          try dsimp only at hSw
          first | (go_simp; done) | (go_simp; with_reducible rfl)
        try simp only [Act.put, List.setIfInBounds_toArray, List.set_cons_zero, List.set_cons_succ]
        refine wpAnyH_take (i := 3) (oi := ⟨some 14, _, _, _, _, _⟩) (v := ?vpaneg3) rfl (by kernel_rfl) (by kernel_rfl) (by kernel_rfl) (fun _ _ _ h => h) (Or.inl ⟨by kernel_rfl, ?ypaneg3⟩) (by assumption) ?rpaneg3
        case ypaneg3 =>
          intro w hSw
          try dsimp only at hSw
          first | (go_simp; done) | (go_simp; with_reducible rfl)
        try simp only [Act.put, List.setIfInBounds_toArray, List.set_cons_zero, List.set_cons_succ]
        refine wpAnyH_take (i := 4) (oi := ⟨some 15, _, _, _, _, _⟩) (v := ?vpaneg4) rfl (by kernel_rfl) (by kernel_rfl) (by kernel_rfl) (fun _ _ _ h => h) (Or.inl ⟨by kernel_rfl, ?ypaneg4⟩) (by assumption) ?rpaneg4
        case ypaneg4 =>
          intro w hSw
          try dsimp only at hSw
          first | (go_simp; done) | (go_simp; with_reducible rfl)
        try simp only [Act.put, List.setIfInBounds_toArray, List.set_cons_zero, List.set_cons_succ]
        refine wpAnyH_take (i := 5) (oi := ⟨some 16, _, _, _, _, _⟩) (v := undef) rfl (by kernel_rfl) (by kernel_rfl) (by kernel_rfl) (fun _ _ _ h => h) (Or.inr ⟨by kernel_rfl, rfl⟩) (by assumption) ?rpaneg5
        try simp only [Act.put, List.setIfInBounds_toArray, List.set_cons_zero, List.set_cons_succ]
        refine wpAnyH_take (i := 6) (oi := ⟨some 17, _, _, _, _, _⟩) (v := undef) rfl (by kernel_rfl) (by kernel_rfl) (by kernel_rfl) (fun _ _ _ h => h) (Or.inr ⟨by kernel_rfl, rfl⟩) (by assumption) ?rpaneg6
        try simp only [Act.put, List.setIfInBounds_toArray, List.set_cons_zero, List.set_cons_succ]
        refine wpAnyH_take (i := 7) (oi := ⟨some 18, _, _, _, _, _⟩) (v := undef) rfl (by kernel_rfl) (by kernel_rfl) (by kernel_rfl) (fun _ _ _ h => h) (Or.inr ⟨by kernel_rfl, rfl⟩) (by assumption) ?rpaneg7
        try simp only [Act.put, List.setIfInBounds_toArray, List.set_cons_zero, List.set_cons_succ]
        refine wpAnyH_take (i := 8) (oi := ⟨some 19, _, _, _, _, _⟩) (v := undef) rfl (by kernel_rfl) (by kernel_rfl) (by kernel_rfl) (fun _ _ _ h => h) (Or.inr ⟨by kernel_rfl, rfl⟩) (by assumption) ?rpaneg8
        try simp only [Act.put, List.setIfInBounds_toArray, List.set_cons_zero, List.set_cons_succ]
        refine wpAnyH_take (i := 9) (oi := ⟨some 20, _, _, _, _, _⟩) (v := undef) rfl (by kernel_rfl) (by kernel_rfl) (by kernel_rfl) (fun _ _ _ h => h) (Or.inr ⟨by kernel_rfl, rfl⟩) (by assumption) ?rpaneg9
        try simp only [Act.put, List.setIfInBounds_toArray, List.set_cons_zero, List.set_cons_succ]
        refine wpAnyH_take (i := 10) (oi := ⟨some 21, _, _, _, _, _⟩) (v := undef) rfl (by kernel_rfl) (by kernel_rfl) (by kernel_rfl) (fun _ _ _ h => h) (Or.inr ⟨by kernel_rfl, rfl⟩) (by assumption) ?rpaneg10
        try simp only [Act.put, List.setIfInBounds_toArray, List.set_cons_zero, List.set_cons_succ]
        refine wpAnyH_take (i := 11) (oi := ⟨some 22, _, _, _, _, _⟩) (v := undef) rfl (by kernel_rfl) (by kernel_rfl) (by kernel_rfl) (fun _ _ _ h => h) (Or.inr ⟨by kernel_rfl, rfl⟩) (by assumption) ?rpaneg11
        try simp only [Act.put, List.setIfInBounds_toArray, List.set_cons_zero, List.set_cons_succ]
        refine wpAnyH_take (i := 12) (oi := ⟨some 23, _, _, _, _, _⟩) (v := ?vpaneg12) rfl (by kernel_rfl) (by kernel_rfl) (by kernel_rfl) (fun _ _ _ h => h) (Or.inl ⟨by kernel_rfl, ?ypaneg12⟩) (by assumption) ?rpaneg12
        case ypaneg12 =>
          intro w hSw
          try dsimp only at hSw
          first | (go_simp; done) | (go_simp; with_reducible rfl)
        try simp only [Act.put, List.setIfInBounds_toArray, List.set_cons_zero, List.set_cons_succ]
        refine wpAnyH_done (by kernel_rfl) ?_ _
        clear x0 x1 x2 x3 k0 k1 k2 k3
        obtain ⟨y0, y1, y2, y3, y4, y5, y6, y7, y8, y9, y10, y11⟩ := cells12 HZ.out
        obtain ⟨f0, f1, f2, f3, f4, f5, f6, f7, f8, f9, f10, f11⟩ := froz12 HZ.out
        go_wp2_with fail
        have hs0 := set12 HZ.out (.int .i64 0) (.string ⟨#[]⟩) (.string ⟨#[]⟩) (.string ⟨#[]⟩) (.int .i64 0) (.string ⟨#[]⟩) (.string ⟨#[]⟩) (.string ⟨#[]⟩) (.int .i64 0) (.string ⟨#[]⟩) (.string ⟨#[]⟩) (.string ⟨#[]⟩)
        have hbel := (below12 (b := w.heap.size + 1 + 1) HB.out (by omega) (.int .i64 0) (.string ⟨#[]⟩) (.string ⟨#[]⟩) (.string ⟨#[]⟩) (.int .i64 0) (.string ⟨#[]⟩) (.string ⟨#[]⟩) (.string ⟨#[]⟩) (.int .i64 0) (.string ⟨#[]⟩) (.string ⟨#[]⟩) (.string ⟨#[]⟩)).drew
        obtain ⟨W9, hW9⟩ : ∃ W9, W9 = ((((((((((((wr.setCell ⟨w.heap.size + 1 + 1, 0, none⟩ (.int .i64 0)).setCell ⟨w.heap.size + 1 + 1, 1, none⟩ (.string ⟨#[]⟩)).setCell ⟨w.heap.size + 1 + 1, 2, none⟩ (.string ⟨#[]⟩)).setCell ⟨w.heap.size + 1 + 1, 3, none⟩ (.string ⟨#[]⟩)).setCell ⟨w.heap.size + 1 + 1, 4, none⟩ (.int .i64 0)).setCell ⟨w.heap.size + 1 + 1, 5, none⟩ (.string ⟨#[]⟩)).setCell ⟨w.heap.size + 1 + 1, 6, none⟩ (.string ⟨#[]⟩)).setCell ⟨w.heap.size + 1 + 1, 7, none⟩ (.string ⟨#[]⟩)).setCell ⟨w.heap.size + 1 + 1, 8, none⟩ (.int .i64 0)).setCell ⟨w.heap.size + 1 + 1, 9, none⟩ (.string ⟨#[]⟩)).setCell ⟨w.heap.size + 1 + 1, 10, none⟩ (.string ⟨#[]⟩)).setCell ⟨w.heap.size + 1 + 1, 11, none⟩ (.string ⟨#[]⟩)).drew := ⟨_, rfl⟩
        have hs : W9.heap[w.heap.size + 1 + 1]? = some (.cells #[.int .i64 0, .string ⟨#[]⟩, .string ⟨#[]⟩, .string ⟨#[]⟩, .int .i64 0, .string ⟨#[]⟩, .string ⟨#[]⟩, .string ⟨#[]⟩, .int .i64 0, .string ⟨#[]⟩, .string ⟨#[]⟩, .string ⟨#[]⟩] 51 (0, 0)) := by rw [hW9]; exact drew_boxT hs0
        rw [← hW9] at hbel ⊢
        obtain ⟨e0, e1, e2, e3, e4, e5, e6, e7, e8, e9, e10, e11⟩ := cells12 hs
        refine bodyPost_ret (v := .tuple #[.agg #[.int .i64 0, .string ⟨#[]⟩, .string ⟨#[]⟩, .string ⟨#[]⟩, .int .i64 0, .string ⟨#[]⟩, .string ⟨#[]⟩, .string ⟨#[]⟩, .int .i64 0, .string ⟨#[]⟩, .string ⟨#[]⟩, .string ⟨#[]⟩], .int .i64 4]) (by simp [results, Try.results29, go_sem, e0, e1, e2, e3, e4, e5, e6, e7, e8, e9, e10, e11]) rfl ?_
        exact ⟨by rw [HV.out]; rfl, hbel⟩
      · have q1 : decide (a < 0) = false := decide_eq_false hneg
        by_cases hbig : (ts.length : Int) ≤ a
        · have q2 : decide ((ts.length : Int) ≤ a) = true := decide_eq_true hbig
          have hno : hasN a ts.length = false := by unfold hasN; simp; omega
          have HV : Hid (tripT G ts a b c = (⟨.none, .none, .none⟩, 4)) := Lib.hid (by unfold tripT; rw [if_neg (by simp [hno])])
          clear hneg hno hbig
          go_wp2_with fail
          refine wp_region_held_drew (S := (fun w' => w'.cell? ⟨w.heap.size, 1, none⟩ = some (.slice a0 ts.length cap) ∧ w'.cell? ⟨w.heap.size + 1, 0, none⟩ = some (.int .i64 a) ∧ w'.cell? ⟨w.heap.size + 1, 1, none⟩ = some (.int .i64 b) ∧ w'.cell? ⟨w.heap.size + 1, 2, none⟩ = some (.int .i64 c))) (by kernel_rfl) ?hSpabig0 (fun hHeld => ?_)
          case hSpabig0 => exact ⟨x1, k0, k1, k2⟩
          refine wpAnyH_take (i := 0) (oi := ⟨some 11, _, _, _, _, _⟩) (v := ?vpabig0) rfl (by kernel_rfl) (by kernel_rfl) (by kernel_rfl) (fun _ _ _ h => h) (Or.inl ⟨by kernel_rfl, ?ypabig0⟩) (by assumption) ?rpabig0
          case ypabig0 =>
            intro w hSw
            try dsimp only at hSw
            first | (go_simp; done) | (go_simp; with_reducible rfl)
          try simp only [Act.put, List.setIfInBounds_toArray, List.set_cons_zero, List.set_cons_succ]
          refine wpAnyH_take (i := 1) (oi := ⟨some 12, _, _, _, _, _⟩) (v := ?vpabig1) rfl (by kernel_rfl) (by kernel_rfl) (by kernel_rfl) (fun _ _ _ h => h) (Or.inl ⟨by kernel_rfl, ?ypabig1⟩) (by assumption) ?rpabig1
          case ypabig1 =>
            intro w hSw
            try dsimp only at hSw
            first | (go_simp; done) | (go_simp; with_reducible rfl)
          try simp only [Act.put, List.setIfInBounds_toArray, List.set_cons_zero, List.set_cons_succ]
          refine wpAnyH_take (i := 2) (oi := ⟨some 13, _, _, _, _, _⟩) (v := ?vpabig2) rfl (by kernel_rfl) (by kernel_rfl) (by kernel_rfl) (fun _ _ _ h => h) (Or.inl ⟨by kernel_rfl, ?ypabig2⟩) (by assumption) ?rpabig2
          case ypabig2 =>
            intro w hSw
            try dsimp only at hSw
            first | (go_simp; done) | (go_simp; with_reducible rfl)
          try simp only [Act.put, List.setIfInBounds_toArray, List.set_cons_zero, List.set_cons_succ]
          refine wpAnyH_take (i := 3) (oi := ⟨some 14, _, _, _, _, _⟩) (v := ?vpabig3) rfl (by kernel_rfl) (by kernel_rfl) (by kernel_rfl) (fun _ _ _ h => h) (Or.inl ⟨by kernel_rfl, ?ypabig3⟩) (by assumption) ?rpabig3
          case ypabig3 =>
            intro w hSw
            try dsimp only at hSw
            first | (go_simp; done) | (go_simp; with_reducible rfl)
          try simp only [Act.put, List.setIfInBounds_toArray, List.set_cons_zero, List.set_cons_succ]
          refine wpAnyH_take (i := 4) (oi := ⟨some 15, _, _, _, _, _⟩) (v := ?vpabig4) rfl (by kernel_rfl) (by kernel_rfl) (by kernel_rfl) (fun _ _ _ h => h) (Or.inl ⟨by kernel_rfl, ?ypabig4⟩) (by assumption) ?rpabig4
          case ypabig4 =>
            intro w hSw
            try dsimp only at hSw
            first | (go_simp; done) | (go_simp; with_reducible rfl)
          try simp only [Act.put, List.setIfInBounds_toArray, List.set_cons_zero, List.set_cons_succ]
          refine wpAnyH_take (i := 5) (oi := ⟨some 16, _, _, _, _, _⟩) (v := ?vpabig5) rfl (by kernel_rfl) (by kernel_rfl) (by kernel_rfl) (fun _ _ _ h => h) (Or.inl ⟨by kernel_rfl, ?ypabig5⟩) (by assumption) ?rpabig5
          case ypabig5 =>
            intro w hSw
            try dsimp only at hSw
            first | (go_simp; done) | (go_simp; with_reducible rfl)
          try simp only [Act.put, List.setIfInBounds_toArray, List.set_cons_zero, List.set_cons_succ]
          refine wpAnyH_take (i := 6) (oi := ⟨some 17, _, _, _, _, _⟩) (v := ?vpabig6) rfl (by kernel_rfl) (by kernel_rfl) (by kernel_rfl) (fun _ _ _ h => h) (Or.inl ⟨by kernel_rfl, ?ypabig6⟩) (by assumption) ?rpabig6
          case ypabig6 =>
            intro w hSw
            try dsimp only at hSw
            first | (go_simp; done) | (go_simp; with_reducible rfl)
          try simp only [Act.put, List.setIfInBounds_toArray, List.set_cons_zero, List.set_cons_succ]
          refine wpAnyH_take (i := 7) (oi := ⟨some 18, _, _, _, _, _⟩) (v := ?vpabig7) rfl (by kernel_rfl) (by kernel_rfl) (by kernel_rfl) (fun _ _ _ h => h) (Or.inl ⟨by kernel_rfl, ?ypabig7⟩) (by assumption) ?rpabig7
          case ypabig7 =>
            intro w hSw
            try dsimp only at hSw
            first | (go_simp; done) | (go_simp; with_reducible rfl)
          try simp only [Act.put, List.setIfInBounds_toArray, List.set_cons_zero, List.set_cons_succ]
          refine wpAnyH_take (i := 8) (oi := ⟨some 19, _, _, _, _, _⟩) (v := ?vpabig8) rfl (by kernel_rfl) (by kernel_rfl) (by kernel_rfl) (fun _ _ _ h => h) (Or.inl ⟨by kernel_rfl, ?ypabig8⟩) (by assumption) ?rpabig8
          case ypabig8 =>
            intro w hSw
            try dsimp only at hSw
            first | (go_simp; done) | (go_simp; with_reducible rfl)
          try simp only [Act.put, List.setIfInBounds_toArray, List.set_cons_zero, List.set_cons_succ]
          refine wpAnyH_take (i := 9) (oi := ⟨some 20, _, _, _, _, _⟩) (v := ?vpabig9) rfl (by kernel_rfl) (by kernel_rfl) (by kernel_rfl) (fun _ _ _ h => h) (Or.inl ⟨by kernel_rfl, ?ypabig9⟩) (by assumption) ?rpabig9
          case ypabig9 =>
            intro w hSw
            try dsimp only at hSw
            first | (go_simp; done) | (go_simp; with_reducible rfl)
          try simp only [Act.put, List.setIfInBounds_toArray, List.set_cons_zero, List.set_cons_succ]
          refine wpAnyH_take (i := 10) (oi := ⟨some 21, _, _, _, _, _⟩) (v := ?vpabig10) rfl (by kernel_rfl) (by kernel_rfl) (by kernel_rfl) (fun _ _ _ h => h) (Or.inl ⟨by kernel_rfl, ?ypabig10⟩) (by assumption) ?rpabig10
          case ypabig10 =>
            intro w hSw
            try dsimp only at hSw
            first | (go_simp; done) | (go_simp; with_reducible rfl)
          try simp only [Act.put, List.setIfInBounds_toArray, List.set_cons_zero, List.set_cons_succ]
          refine wpAnyH_take (i := 11) (oi := ⟨some 22, _, _, _, _, _⟩) (v := ?vpabig11) rfl (by kernel_rfl) (by kernel_rfl) (by kernel_rfl) (fun _ _ _ h => h) (Or.inl ⟨by kernel_rfl, ?ypabig11⟩) (by assumption) ?rpabig11
          case ypabig11 =>
            intro w hSw
            try dsimp only at hSw
            first | (go_simp; done) | (go_simp; with_reducible rfl)
          try simp only [Act.put, List.setIfInBounds_toArray, List.set_cons_zero, List.set_cons_succ]
          refine wpAnyH_take (i := 12) (oi := ⟨some 23, _, _, _, _, _⟩) (v := ?vpabig12) rfl (by kernel_rfl) (by kernel_rfl) (by kernel_rfl) (fun _ _ _ h => h) (Or.inl ⟨by kernel_rfl, ?ypabig12⟩) (by assumption) ?rpabig12
          case ypabig12 =>
            intro w hSw
            try dsimp only at hSw
            first | (go_simp; done) | (go_simp; with_reducible rfl)
          try simp only [Act.put, List.setIfInBounds_toArray, List.set_cons_zero, List.set_cons_succ]
          refine wpAnyH_done (by kernel_rfl) ?_ _
          clear x0 x1 x2 x3 k0 k1 k2 k3
          obtain ⟨y0, y1, y2, y3, y4, y5, y6, y7, y8, y9, y10, y11⟩ := cells12 HZ.out
          obtain ⟨f0, f1, f2, f3, f4, f5, f6, f7, f8, f9, f10, f11⟩ := froz12 HZ.out
          go_wp2_with fail
          have hs0 := set12 HZ.out (.int .i64 0) (.string ⟨#[]⟩) (.string ⟨#[]⟩) (.string ⟨#[]⟩) (.int .i64 0) (.string ⟨#[]⟩) (.string ⟨#[]⟩) (.string ⟨#[]⟩) (.int .i64 0) (.string ⟨#[]⟩) (.string ⟨#[]⟩) (.string ⟨#[]⟩)
          have hbel := (below12 (b := w.heap.size + 1 + 1) HB.out (by omega) (.int .i64 0) (.string ⟨#[]⟩) (.string ⟨#[]⟩) (.string ⟨#[]⟩) (.int .i64 0) (.string ⟨#[]⟩) (.string ⟨#[]⟩) (.string ⟨#[]⟩) (.int .i64 0) (.string ⟨#[]⟩) (.string ⟨#[]⟩) (.string ⟨#[]⟩)).drew
          obtain ⟨W9, hW9⟩ : ∃ W9, W9 = ((((((((((((wr.setCell ⟨w.heap.size + 1 + 1, 0, none⟩ (.int .i64 0)).setCell ⟨w.heap.size + 1 + 1, 1, none⟩ (.string ⟨#[]⟩)).setCell ⟨w.heap.size + 1 + 1, 2, none⟩ (.string ⟨#[]⟩)).setCell ⟨w.heap.size + 1 + 1, 3, none⟩ (.string ⟨#[]⟩)).setCell ⟨w.heap.size + 1 + 1, 4, none⟩ (.int .i64 0)).setCell ⟨w.heap.size + 1 + 1, 5, none⟩ (.string ⟨#[]⟩)).setCell ⟨w.heap.size + 1 + 1, 6, none⟩ (.string ⟨#[]⟩)).setCell ⟨w.heap.size + 1 + 1, 7, none⟩ (.string ⟨#[]⟩)).setCell ⟨w.heap.size + 1 + 1, 8, none⟩ (.int .i64 0)).setCell ⟨w.heap.size + 1 + 1, 9, none⟩ (.string ⟨#[]⟩)).setCell ⟨w.heap.size + 1 + 1, 10, none⟩ (.string ⟨#[]⟩)).setCell ⟨w.heap.size + 1 + 1, 11, none⟩ (.string ⟨#[]⟩)).drew := ⟨_, rfl⟩
          have hs : W9.heap[w.heap.size + 1 + 1]? = some (.cells #[.int .i64 0, .string ⟨#[]⟩, .string ⟨#[]⟩, .string ⟨#[]⟩, .int .i64 0, .string ⟨#[]⟩, .string ⟨#[]⟩, .string ⟨#[]⟩, .int .i64 0, .string ⟨#[]⟩, .string ⟨#[]⟩, .string ⟨#[]⟩] 51 (0, 0)) := by rw [hW9]; exact drew_boxT hs0
          rw [← hW9] at hbel ⊢
          obtain ⟨e0, e1, e2, e3, e4, e5, e6, e7, e8, e9, e10, e11⟩ := cells12 hs
          refine bodyPost_ret (v := .tuple #[.agg #[.int .i64 0, .string ⟨#[]⟩, .string ⟨#[]⟩, .string ⟨#[]⟩, .int .i64 0, .string ⟨#[]⟩, .string ⟨#[]⟩, .string ⟨#[]⟩, .int .i64 0, .string ⟨#[]⟩, .string ⟨#[]⟩, .string ⟨#[]⟩], .int .i64 4]) (by simp [results, Try.results29, go_sem, e0, e1, e2, e3, e4, e5, e6, e7, e8, e9, e10, e11]) rfl ?_
          exact ⟨by rw [HV.out]; rfl, hbel⟩
        · have q2 : decide ((ts.length : Int) ≤ a) = false := decide_eq_false hbig
          have HHAS : Hid (hasN a ts.length = true) := Lib.hid (by unfold hasN; simp; omega)
          clear hneg hbig
          go_wp2_with fail
          refine wp_region_held_drew (S := (fun w' => w'.cell? ⟨w.heap.size, 1, none⟩ = some (.slice a0 ts.length cap) ∧ w'.cell? ⟨w.heap.size + 1, 0, none⟩ = some (.int .i64 a) ∧ w'.cell? ⟨w.heap.size + 1, 1, none⟩ = some (.int .i64 b) ∧ w'.cell? ⟨w.heap.size + 1, 2, none⟩ = some (.int .i64 c))) (by kernel_rfl) ?hSpayes0 (fun hHeld => ?_)
          case hSpayes0 => exact ⟨x1, k0, k1, k2⟩
          refine wpAnyH_take (i := 0) (oi := ⟨some 11, _, _, _, _, _⟩) (v := ?vpayes0) rfl (by kernel_rfl) (by kernel_rfl) (by kernel_rfl) (fun _ _ _ h => h) (Or.inl ⟨by kernel_rfl, ?ypayes0⟩) (by assumption) ?rpayes0
          case ypayes0 =>
            intro w hSw
            try dsimp only at hSw
            first | (go_simp; done) | (go_simp; with_reducible rfl)
          try simp only [Act.put, List.setIfInBounds_toArray, List.set_cons_zero, List.set_cons_succ]
          refine wpAnyH_take (i := 1) (oi := ⟨some 12, _, _, _, _, _⟩) (v := ?vpayes1) rfl (by kernel_rfl) (by kernel_rfl) (by kernel_rfl) (fun _ _ _ h => h) (Or.inl ⟨by kernel_rfl, ?ypayes1⟩) (by assumption) ?rpayes1
          case ypayes1 =>
            intro w hSw
            try dsimp only at hSw
            first | (go_simp; done) | (go_simp; with_reducible rfl)
          try simp only [Act.put, List.setIfInBounds_toArray, List.set_cons_zero, List.set_cons_succ]
          refine wpAnyH_take (i := 2) (oi := ⟨some 13, _, _, _, _, _⟩) (v := ?vpayes2) rfl (by kernel_rfl) (by kernel_rfl) (by kernel_rfl) (fun _ _ _ h => h) (Or.inl ⟨by kernel_rfl, ?ypayes2⟩) (by assumption) ?rpayes2
          case ypayes2 =>
            intro w hSw
            try dsimp only at hSw
            first | (go_simp; done) | (go_simp; with_reducible rfl)
          try simp only [Act.put, List.setIfInBounds_toArray, List.set_cons_zero, List.set_cons_succ]
          refine wpAnyH_take (i := 3) (oi := ⟨some 14, _, _, _, _, _⟩) (v := ?vpayes3) rfl (by kernel_rfl) (by kernel_rfl) (by kernel_rfl) (fun _ _ _ h => h) (Or.inl ⟨by kernel_rfl, ?ypayes3⟩) (by assumption) ?rpayes3
          case ypayes3 =>
            intro w hSw
            try dsimp only at hSw
            first | (go_simp; done) | (go_simp; with_reducible rfl)
          try simp only [Act.put, List.setIfInBounds_toArray, List.set_cons_zero, List.set_cons_succ]
          refine wpAnyH_take (i := 4) (oi := ⟨some 15, _, _, _, _, _⟩) (v := ?vpayes4) rfl (by kernel_rfl) (by kernel_rfl) (by kernel_rfl) (fun _ _ _ h => h) (Or.inl ⟨by kernel_rfl, ?ypayes4⟩) (by assumption) ?rpayes4
          case ypayes4 =>
            intro w hSw
            try dsimp only at hSw
            first | (go_simp; done) | (go_simp; with_reducible rfl)
          try simp only [Act.put, List.setIfInBounds_toArray, List.set_cons_zero, List.set_cons_succ]
          refine wpAnyH_take (i := 5) (oi := ⟨some 16, _, _, _, _, _⟩) (v := ?vpayes5) rfl (by kernel_rfl) (by kernel_rfl) (by kernel_rfl) (fun _ _ _ h => h) (Or.inl ⟨by kernel_rfl, ?ypayes5⟩) (by assumption) ?rpayes5
          case ypayes5 =>
            intro w hSw
            try dsimp only at hSw
            first | (go_simp; done) | (go_simp; with_reducible rfl)
          try simp only [Act.put, List.setIfInBounds_toArray, List.set_cons_zero, List.set_cons_succ]
          refine wpAnyH_take (i := 6) (oi := ⟨some 17, _, _, _, _, _⟩) (v := ?vpayes6) rfl (by kernel_rfl) (by kernel_rfl) (by kernel_rfl) (fun _ _ _ h => h) (Or.inl ⟨by kernel_rfl, ?ypayes6⟩) (by assumption) ?rpayes6
          case ypayes6 =>
            intro w hSw
            try dsimp only at hSw
            first | (go_simp; done) | (go_simp; with_reducible rfl)
          try simp only [Act.put, List.setIfInBounds_toArray, List.set_cons_zero, List.set_cons_succ]
          refine wpAnyH_take (i := 7) (oi := ⟨some 18, _, _, _, _, _⟩) (v := ?vpayes7) rfl (by kernel_rfl) (by kernel_rfl) (by kernel_rfl) (fun _ _ _ h => h) (Or.inl ⟨by kernel_rfl, ?ypayes7⟩) (by assumption) ?rpayes7
          case ypayes7 =>
            intro w hSw
            try dsimp only at hSw
            first | (go_simp; done) | (go_simp; with_reducible rfl)
          try simp only [Act.put, List.setIfInBounds_toArray, List.set_cons_zero, List.set_cons_succ]
          refine wpAnyH_take (i := 8) (oi := ⟨some 19, _, _, _, _, _⟩) (v := ?vpayes8) rfl (by kernel_rfl) (by kernel_rfl) (by kernel_rfl) (fun _ _ _ h => h) (Or.inl ⟨by kernel_rfl, ?ypayes8⟩) (by assumption) ?rpayes8
          case ypayes8 =>
            intro w hSw
            try dsimp only at hSw
            first | (go_simp; done) | (go_simp; with_reducible rfl)
          try simp only [Act.put, List.setIfInBounds_toArray, List.set_cons_zero, List.set_cons_succ]
          refine wpAnyH_take (i := 9) (oi := ⟨some 20, _, _, _, _, _⟩) (v := ?vpayes9) rfl (by kernel_rfl) (by kernel_rfl) (by kernel_rfl) (fun _ _ _ h => h) (Or.inl ⟨by kernel_rfl, ?ypayes9⟩) (by assumption) ?rpayes9
          case ypayes9 =>
            intro w hSw
            try dsimp only at hSw
            first | (go_simp; done) | (go_simp; with_reducible rfl)
          try simp only [Act.put, List.setIfInBounds_toArray, List.set_cons_zero, List.set_cons_succ]
          refine wpAnyH_take (i := 10) (oi := ⟨some 21, _, _, _, _, _⟩) (v := ?vpayes10) rfl (by kernel_rfl) (by kernel_rfl) (by kernel_rfl) (fun _ _ _ h => h) (Or.inl ⟨by kernel_rfl, ?ypayes10⟩) (by assumption) ?rpayes10
          case ypayes10 =>
            intro w hSw
            try dsimp only at hSw
            first | (go_simp; done) | (go_simp; with_reducible rfl)
          try simp only [Act.put, List.setIfInBounds_toArray, List.set_cons_zero, List.set_cons_succ]
          refine wpAnyH_take (i := 11) (oi := ⟨some 22, _, _, _, _, _⟩) (v := ?vpayes11) rfl (by kernel_rfl) (by kernel_rfl) (by kernel_rfl) (fun _ _ _ h => h) (Or.inl ⟨by kernel_rfl, ?ypayes11⟩) (by assumption) ?rpayes11
          case ypayes11 =>
            intro w hSw
            try dsimp only at hSw
            first | (go_simp; done) | (go_simp; with_reducible rfl)
          try simp only [Act.put, List.setIfInBounds_toArray, List.set_cons_zero, List.set_cons_succ]
          refine wpAnyH_take (i := 12) (oi := ⟨some 23, _, _, _, _, _⟩) (v := ?vpayes12) rfl (by kernel_rfl) (by kernel_rfl) (by kernel_rfl) (fun _ _ _ h => h) (Or.inl ⟨by kernel_rfl, ?ypayes12⟩) (by assumption) ?rpayes12
          case ypayes12 =>
            intro w hSw
            try dsimp only at hSw
            first | (go_simp; done) | (go_simp; with_reducible rfl)
          try simp only [Act.put, List.setIfInBounds_toArray, List.set_cons_zero, List.set_cons_succ]
          refine wpAnyH_done (by kernel_rfl) ?_ _
          clear x0 x1 x2 x3 k0 k1 k2 k3
          go_wp2_with fail
          exact ⟨⟨1, by omega, rfl, Lib.hid ⟨hb.out.1.drew, fun _ => HHAS.out, fun h => by omega, fun h => by omega⟩⟩, by simp [intOf]⟩
    · rw [show ((1 : Nat) : Int) = 1 from rfl]
      obtain ⟨x0, x1, x2, x3⟩ := cells2 HX.out
      obtain ⟨k0, k1, k2, k3⟩ := cells3 HK.out
      by_cases hneg : b < 0
      · have q1 : decide (b < 0) = true := decide_eq_true hneg
        have hno : hasN b ts.length = false := by unfold hasN; simp; omega
        have HV : Hid (tripT G ts a b c = (⟨.none, .none, .none⟩, 4)) := Lib.hid (by unfold tripT; rw [if_neg (by simp [hno])])
        clear hneg hno
        go_wp2_with fail
        refine wp_region_held_drew (S := (fun w' => w'.cell? ⟨w.heap.size, 1, none⟩ = some (.slice a0 ts.length cap) ∧ w'.cell? ⟨w.heap.size + 1, 0, none⟩ = some (.int .i64 a) ∧ w'.cell? ⟨w.heap.size + 1, 1, none⟩ = some (.int .i64 b) ∧ w'.cell? ⟨w.heap.size + 1, 2, none⟩ = some (.int .i64 c))) (by kernel_rfl) ?hSpbneg0 (fun hHeld => ?_)
        case hSpbneg0 => exact ⟨x1, k0, k1, k2⟩
        refine wpAnyH_take (i := 0) (oi := ⟨some 11, _, _, _, _, _⟩) (v := ?vpbneg0) rfl (by kernel_rfl) (by kernel_rfl) (by kernel_rfl) (fun _ _ _ h => h) (Or.inl ⟨by kernel_rfl, ?ypbneg0⟩) (by assumption) ?rpbneg0
        case ypbneg0 =>
          intro w hSw
          try dsimp only at hSw
          first | (go_simp; done) | (go_simp; with_reducible rfl)
        try simp only [Act.put, List.setIfInBounds_toArray, List.set_cons_zero, List.set_cons_succ]
        refine wpAnyH_take (i := 1) (oi := ⟨some 12, _, _, _, _, _⟩) (v := ?vpbneg1) rfl (by kernel_rfl) (by kernel_rfl) (by kernel_rfl) (fun _ _ _ h => h) (Or.inl ⟨by kernel_rfl, ?ypbneg1⟩) (by assumption) ?rpbneg1
        case ypbneg1 =>
          intro w hSw
          try dsimp only at hSw
          first | (go_simp; done) | (go_simp; with_reducible rfl)
        try simp only [Act.put, List.setIfInBounds_toArray, List.set_cons_zero, List.set_cons_succ]
        refine wpAnyH_take (i := 2) (oi := ⟨some 13, _, _, _, _, _⟩) (v := ?vpbneg2) rfl (by kernel_rfl) (by kernel_rfl) (by kernel_rfl) (fun _ _ _ h => h) (Or.inl ⟨by kernel_rfl, ?ypbneg2⟩) (by assumption) ?rpbneg2
        case ypbneg2 =>
          intro w hSw
          try dsimp only at hSw
          first | (go_simp; done) | (go_simp; with_reducible rfl)
        try simp only [Act.put, List.setIfInBounds_toArray, List.set_cons_zero, List.set_cons_succ]
        refine wpAnyH_take (i := 3) (oi := ⟨some 14, _, _, _, _, _⟩) (v := ?vpbneg3) rfl (by kernel_rfl) (by kernel_rfl) (by kernel_rfl) (fun _ _ _ h => h) (Or.inl ⟨by kernel_rfl, ?ypbneg3⟩) (by assumption) ?rpbneg3
        case ypbneg3 =>
          intro w hSw
          try dsimp only at hSw
          first | (go_simp; done) | (go_simp; with_reducible rfl)
        try simp only [Act.put, List.setIfInBounds_toArray, List.set_cons_zero, List.set_cons_succ]
        refine wpAnyH_take (i := 4) (oi := ⟨some 15, _, _, _, _, _⟩) (v := ?vpbneg4) rfl (by kernel_rfl) (by kernel_rfl) (by kernel_rfl) (fun _ _ _ h => h) (Or.inl ⟨by kernel_rfl, ?ypbneg4⟩) (by assumption) ?rpbneg4
        case ypbneg4 =>
          intro w hSw
          try dsimp only at hSw
          first | (go_simp; done) | (go_simp; with_reducible rfl)
        try simp only [Act.put, List.setIfInBounds_toArray, List.set_cons_zero, List.set_cons_succ]
        refine wpAnyH_take (i := 5) (oi := ⟨some 16, _, _, _, _, _⟩) (v := undef) rfl (by kernel_rfl) (by kernel_rfl) (by kernel_rfl) (fun _ _ _ h => h) (Or.inr ⟨by kernel_rfl, rfl⟩) (by assumption) ?rpbneg5
        try simp only [Act.put, List.setIfInBounds_toArray, List.set_cons_zero, List.set_cons_succ]
        refine wpAnyH_take (i := 6) (oi := ⟨some 17, _, _, _, _, _⟩) (v := undef) rfl (by kernel_rfl) (by kernel_rfl) (by kernel_rfl) (fun _ _ _ h => h) (Or.inr ⟨by kernel_rfl, rfl⟩) (by assumption) ?rpbneg6
        try simp only [Act.put, List.setIfInBounds_toArray, List.set_cons_zero, List.set_cons_succ]
        refine wpAnyH_take (i := 7) (oi := ⟨some 18, _, _, _, _, _⟩) (v := undef) rfl (by kernel_rfl) (by kernel_rfl) (by kernel_rfl) (fun _ _ _ h => h) (Or.inr ⟨by kernel_rfl, rfl⟩) (by assumption) ?rpbneg7
        try simp only [Act.put, List.setIfInBounds_toArray, List.set_cons_zero, List.set_cons_succ]
        refine wpAnyH_take (i := 8) (oi := ⟨some 19, _, _, _, _, _⟩) (v := undef) rfl (by kernel_rfl) (by kernel_rfl) (by kernel_rfl) (fun _ _ _ h => h) (Or.inr ⟨by kernel_rfl, rfl⟩) (by assumption) ?rpbneg8
        try simp only [Act.put, List.setIfInBounds_toArray, List.set_cons_zero, List.set_cons_succ]
        refine wpAnyH_take (i := 9) (oi := ⟨some 20, _, _, _, _, _⟩) (v := undef) rfl (by kernel_rfl) (by kernel_rfl) (by kernel_rfl) (fun _ _ _ h => h) (Or.inr ⟨by kernel_rfl, rfl⟩) (by assumption) ?rpbneg9
        try simp only [Act.put, List.setIfInBounds_toArray, List.set_cons_zero, List.set_cons_succ]
        refine wpAnyH_take (i := 10) (oi := ⟨some 21, _, _, _, _, _⟩) (v := undef) rfl (by kernel_rfl) (by kernel_rfl) (by kernel_rfl) (fun _ _ _ h => h) (Or.inr ⟨by kernel_rfl, rfl⟩) (by assumption) ?rpbneg10
        try simp only [Act.put, List.setIfInBounds_toArray, List.set_cons_zero, List.set_cons_succ]
        refine wpAnyH_take (i := 11) (oi := ⟨some 22, _, _, _, _, _⟩) (v := undef) rfl (by kernel_rfl) (by kernel_rfl) (by kernel_rfl) (fun _ _ _ h => h) (Or.inr ⟨by kernel_rfl, rfl⟩) (by assumption) ?rpbneg11
        try simp only [Act.put, List.setIfInBounds_toArray, List.set_cons_zero, List.set_cons_succ]
        refine wpAnyH_take (i := 12) (oi := ⟨some 23, _, _, _, _, _⟩) (v := ?vpbneg12) rfl (by kernel_rfl) (by kernel_rfl) (by kernel_rfl) (fun _ _ _ h => h) (Or.inl ⟨by kernel_rfl, ?ypbneg12⟩) (by assumption) ?rpbneg12
        case ypbneg12 =>
          intro w hSw
          try dsimp only at hSw
          first | (go_simp; done) | (go_simp; with_reducible rfl)
        try simp only [Act.put, List.setIfInBounds_toArray, List.set_cons_zero, List.set_cons_succ]
        refine wpAnyH_done (by kernel_rfl) ?_ _
        clear x0 x1 x2 x3 k0 k1 k2 k3
        obtain ⟨y0, y1, y2, y3, y4, y5, y6, y7, y8, y9, y10, y11⟩ := cells12 HZ.out
        obtain ⟨f0, f1, f2, f3, f4, f5, f6, f7, f8, f9, f10, f11⟩ := froz12 HZ.out
        go_wp2_with fail
        have hs0 := set12 HZ.out (.int .i64 0) (.string ⟨#[]⟩) (.string ⟨#[]⟩) (.string ⟨#[]⟩) (.int .i64 0) (.string ⟨#[]⟩) (.string ⟨#[]⟩) (.string ⟨#[]⟩) (.int .i64 0) (.string ⟨#[]⟩) (.string ⟨#[]⟩) (.string ⟨#[]⟩)
        have hbel := (below12 (b := w.heap.size + 1 + 1) HB.out (by omega) (.int .i64 0) (.string ⟨#[]⟩) (.string ⟨#[]⟩) (.string ⟨#[]⟩) (.int .i64 0) (.string ⟨#[]⟩) (.string ⟨#[]⟩) (.string ⟨#[]⟩) (.int .i64 0) (.string ⟨#[]⟩) (.string ⟨#[]⟩) (.string ⟨#[]⟩)).drew
        obtain ⟨W9, hW9⟩ : ∃ W9, W9 = ((((((((((((wr.setCell ⟨w.heap.size + 1 + 1, 0, none⟩ (.int .i64 0)).setCell ⟨w.heap.size + 1 + 1, 1, none⟩ (.string ⟨#[]⟩)).setCell ⟨w.heap.size + 1 + 1, 2, none⟩ (.string ⟨#[]⟩)).setCell ⟨w.heap.size + 1 + 1, 3, none⟩ (.string ⟨#[]⟩)).setCell ⟨w.heap.size + 1 + 1, 4, none⟩ (.int .i64 0)).setCell ⟨w.heap.size + 1 + 1, 5, none⟩ (.string ⟨#[]⟩)).setCell ⟨w.heap.size + 1 + 1, 6, none⟩ (.string ⟨#[]⟩)).setCell ⟨w.heap.size + 1 + 1, 7, none⟩ (.string ⟨#[]⟩)).setCell ⟨w.heap.size + 1 + 1, 8, none⟩ (.int .i64 0)).setCell ⟨w.heap.size + 1 + 1, 9, none⟩ (.string ⟨#[]⟩)).setCell ⟨w.heap.size + 1 + 1, 10, none⟩ (.string ⟨#[]⟩)).setCell ⟨w.heap.size + 1 + 1, 11, none⟩ (.string ⟨#[]⟩)).drew := ⟨_, rfl⟩
        have hs : W9.heap[w.heap.size + 1 + 1]? = some (.cells #[.int .i64 0, .string ⟨#[]⟩, .string ⟨#[]⟩, .string ⟨#[]⟩, .int .i64 0, .string ⟨#[]⟩, .string ⟨#[]⟩, .string ⟨#[]⟩, .int .i64 0, .string ⟨#[]⟩, .string ⟨#[]⟩, .string ⟨#[]⟩] 51 (0, 0)) := by rw [hW9]; exact drew_boxT hs0
        rw [← hW9] at hbel ⊢
        obtain ⟨e0, e1, e2, e3, e4, e5, e6, e7, e8, e9, e10, e11⟩ := cells12 hs
        refine bodyPost_ret (v := .tuple #[.agg #[.int .i64 0, .string ⟨#[]⟩, .string ⟨#[]⟩, .string ⟨#[]⟩, .int .i64 0, .string ⟨#[]⟩, .string ⟨#[]⟩, .string ⟨#[]⟩, .int .i64 0, .string ⟨#[]⟩, .string ⟨#[]⟩, .string ⟨#[]⟩], .int .i64 4]) (by simp [results, Try.results29, go_sem, e0, e1, e2, e3, e4, e5, e6, e7, e8, e9, e10, e11]) rfl ?_
        exact ⟨by rw [HV.out]; rfl, hbel⟩
      · have q1 : decide (b < 0) = false := decide_eq_false hneg
        by_cases hbig : (ts.length : Int) ≤ b
        · have q2 : decide ((ts.length : Int) ≤ b) = true := decide_eq_true hbig
          have hno : hasN b ts.length = false := by unfold hasN; simp; omega
          have HV : Hid (tripT G ts a b c = (⟨.none, .none, .none⟩, 4)) := Lib.hid (by unfold tripT; rw [if_neg (by simp [hno])])
          clear hneg hno hbig
          go_wp2_with fail
          refine wp_region_held_drew (S := (fun w' => w'.cell? ⟨w.heap.size, 1, none⟩ = some (.slice a0 ts.length cap) ∧ w'.cell? ⟨w.heap.size + 1, 0, none⟩ = some (.int .i64 a) ∧ w'.cell? ⟨w.heap.size + 1, 1, none⟩ = some (.int .i64 b) ∧ w'.cell? ⟨w.heap.size + 1, 2, none⟩ = some (.int .i64 c))) (by kernel_rfl) ?hSpbbig0 (fun hHeld => ?_)
          case hSpbbig0 => exact ⟨x1, k0, k1, k2⟩
          refine wpAnyH_take (i := 0) (oi := ⟨some 11, _, _, _, _, _⟩) (v := ?vpbbig0) rfl (by kernel_rfl) (by kernel_rfl) (by kernel_rfl) (fun _ _ _ h => h) (Or.inl ⟨by kernel_rfl, ?ypbbig0⟩) (by assumption) ?rpbbig0
          case ypbbig0 =>
            intro w hSw
            try dsimp only at hSw
            first | (go_simp; done) | (go_simp; with_reducible rfl)
          try simp only [Act.put, List.setIfInBounds_toArray, List.set_cons_zero, List.set_cons_succ]
          refine wpAnyH_take (i := 1) (oi := ⟨some 12, _, _, _, _, _⟩) (v := ?vpbbig1) rfl (by kernel_rfl) (by kernel_rfl) (by kernel_rfl) (fun _ _ _ h => h) (Or.inl ⟨by kernel_rfl, ?ypbbig1⟩) (by assumption) ?rpbbig1
          case ypbbig1 =>
            intro w hSw
            try dsimp only at hSw
            first | (go_simp; done) | (go_simp; with_reducible rfl)
          try simp only [Act.put, List.setIfInBounds_toArray, List.set_cons_zero, List.set_cons_succ]
          refine wpAnyH_take (i := 2) (oi := ⟨some 13, _, _, _, _, _⟩) (v := ?vpbbig2) rfl (by kernel_rfl) (by kernel_rfl) (by kernel_rfl) (fun _ _ _ h => h) (Or.inl ⟨by kernel_rfl, ?ypbbig2⟩) (by assumption) ?rpbbig2
          case ypbbig2 =>
            intro w hSw
            try dsimp only at hSw
            first | (go_simp; done) | (go_simp; with_reducible rfl)
          try simp only [Act.put, List.setIfInBounds_toArray, List.set_cons_zero, List.set_cons_succ]
          refine wpAnyH_take (i := 3) (oi := ⟨some 14, _, _, _, _, _⟩) (v := ?vpbbig3) rfl (by kernel_rfl) (by kernel_rfl) (by kernel_rfl) (fun _ _ _ h => h) (Or.inl ⟨by kernel_rfl, ?ypbbig3⟩) (by assumption) ?rpbbig3
          case ypbbig3 =>
            intro w hSw
            try dsimp only at hSw
            first | (go_simp; done) | (go_simp; with_reducible rfl)
          try simp only [Act.put, List.setIfInBounds_toArray, List.set_cons_zero, List.set_cons_succ]
          refine wpAnyH_take (i := 4) (oi := ⟨some 15, _, _, _, _, _⟩) (v := ?vpbbig4) rfl (by kernel_rfl) (by kernel_rfl) (by kernel_rfl) (fun _ _ _ h => h) (Or.inl ⟨by kernel_rfl, ?ypbbig4⟩) (by assumption) ?rpbbig4
          case ypbbig4 =>
            intro w hSw
            try dsimp only at hSw
            first | (go_simp; done) | (go_simp; with_reducible rfl)
          try simp only [Act.put, List.setIfInBounds_toArray, List.set_cons_zero, List.set_cons_succ]
          refine wpAnyH_take (i := 5) (oi := ⟨some 16, _, _, _, _, _⟩) (v := ?vpbbig5) rfl (by kernel_rfl) (by kernel_rfl) (by kernel_rfl) (fun _ _ _ h => h) (Or.inl ⟨by kernel_rfl, ?ypbbig5⟩) (by assumption) ?rpbbig5
          case ypbbig5 =>
            intro w hSw
            try dsimp only at hSw
            first | (go_simp; done) | (go_simp; with_reducible rfl)
          try simp only [Act.put, List.setIfInBounds_toArray, List.set_cons_zero, List.set_cons_succ]
          refine wpAnyH_take (i := 6) (oi := ⟨some 17, _, _, _, _, _⟩) (v := ?vpbbig6) rfl (by kernel_rfl) (by kernel_rfl) (by kernel_rfl) (fun _ _ _ h => h) (Or.inl ⟨by kernel_rfl, ?ypbbig6⟩) (by assumption) ?rpbbig6
          case ypbbig6 =>
            intro w hSw
            try dsimp only at hSw
            first | (go_simp; done) | (go_simp; with_reducible rfl)
          try simp only [Act.put, List.setIfInBounds_toArray, List.set_cons_zero, List.set_cons_succ]
          refine wpAnyH_take (i := 7) (oi := ⟨some 18, _, _, _, _, _⟩) (v := ?vpbbig7) rfl (by kernel_rfl) (by kernel_rfl) (by kernel_rfl) (fun _ _ _ h => h) (Or.inl ⟨by kernel_rfl, ?ypbbig7⟩) (by assumption) ?rpbbig7
          case ypbbig7 =>
            intro w hSw
            try dsimp only at hSw
            first | (go_simp; done) | (go_simp; with_reducible rfl)
          try simp only [Act.put, List.setIfInBounds_toArray, List.set_cons_zero, List.set_cons_succ]
          refine wpAnyH_take (i := 8) (oi := ⟨some 19, _, _, _, _, _⟩) (v := ?vpbbig8) rfl (by kernel_rfl) (by kernel_rfl) (by kernel_rfl) (fun _ _ _ h => h) (Or.inl ⟨by kernel_rfl, ?ypbbig8⟩) (by assumption) ?rpbbig8
          case ypbbig8 =>
            intro w hSw
            try dsimp only at hSw
            first | (go_simp; done) | (go_simp; with_reducible rfl)
          try simp only [Act.put, List.setIfInBounds_toArray, List.set_cons_zero, List.set_cons_succ]
          refine wpAnyH_take (i := 9) (oi := ⟨some 20, _, _, _, _, _⟩) (v := ?vpbbig9) rfl (by kernel_rfl) (by kernel_rfl) (by kernel_rfl) (fun _ _ _ h => h) (Or.inl ⟨by kernel_rfl, ?ypbbig9⟩) (by assumption) ?rpbbig9
          case ypbbig9 =>
            intro w hSw
            try dsimp only at hSw
            first | (go_simp; done) | (go_simp; with_reducible rfl)
          try simp only [Act.put, List.setIfInBounds_toArray, List.set_cons_zero, List.set_cons_succ]
          refine wpAnyH_take (i := 10) (oi := ⟨some 21, _, _, _, _, _⟩) (v := ?vpbbig10) rfl (by kernel_rfl) (by kernel_rfl) (by kernel_rfl) (fun _ _ _ h => h) (Or.inl ⟨by kernel_rfl, ?ypbbig10⟩) (by assumption) ?rpbbig10
          case ypbbig10 =>
            intro w hSw
            try dsimp only at hSw
            first | (go_simp; done) | (go_simp; with_reducible rfl)
          try simp only [Act.put, List.setIfInBounds_toArray, List.set_cons_zero, List.set_cons_succ]
          refine wpAnyH_take (i := 11) (oi := ⟨some 22, _, _, _, _, _⟩) (v := ?vpbbig11) rfl (by kernel_rfl) (by kernel_rfl) (by kernel_rfl) (fun _ _ _ h => h) (Or.inl ⟨by kernel_rfl, ?ypbbig11⟩) (by assumption) ?rpbbig11
          case ypbbig11 =>
            intro w hSw
            try dsimp only at hSw
            first | (go_simp; done) | (go_simp; with_reducible rfl)
          try simp only [Act.put, List.setIfInBounds_toArray, List.set_cons_zero, List.set_cons_succ]
          refine wpAnyH_take (i := 12) (oi := ⟨some 23, _, _, _, _, _⟩) (v := ?vpbbig12) rfl (by kernel_rfl) (by kernel_rfl) (by kernel_rfl) (fun _ _ _ h => h) (Or.inl ⟨by kernel_rfl, ?ypbbig12⟩) (by assumption) ?rpbbig12
          case ypbbig12 =>
            intro w hSw
            try dsimp only at hSw
            first | (go_simp; done) | (go_simp; with_reducible rfl)
          try simp only [Act.put, List.setIfInBounds_toArray, List.set_cons_zero, List.set_cons_succ]
          refine wpAnyH_done (by kernel_rfl) ?_ _
          clear x0 x1 x2 x3 k0 k1 k2 k3
          obtain ⟨y0, y1, y2, y3, y4, y5, y6, y7, y8, y9, y10, y11⟩ := cells12 HZ.out
          obtain ⟨f0, f1, f2, f3, f4, f5, f6, f7, f8, f9, f10, f11⟩ := froz12 HZ.out
          go_wp2_with fail
          have hs0 := set12 HZ.out (.int .i64 0) (.string ⟨#[]⟩) (.string ⟨#[]⟩) (.string ⟨#[]⟩) (.int .i64 0) (.string ⟨#[]⟩) (.string ⟨#[]⟩) (.string ⟨#[]⟩) (.int .i64 0) (.string ⟨#[]⟩) (.string ⟨#[]⟩) (.string ⟨#[]⟩)
          have hbel := (below12 (b := w.heap.size + 1 + 1) HB.out (by omega) (.int .i64 0) (.string ⟨#[]⟩) (.string ⟨#[]⟩) (.string ⟨#[]⟩) (.int .i64 0) (.string ⟨#[]⟩) (.string ⟨#[]⟩) (.string ⟨#[]⟩) (.int .i64 0) (.string ⟨#[]⟩) (.string ⟨#[]⟩) (.string ⟨#[]⟩)).drew
          obtain ⟨W9, hW9⟩ : ∃ W9, W9 = ((((((((((((wr.setCell ⟨w.heap.size + 1 + 1, 0, none⟩ (.int .i64 0)).setCell ⟨w.heap.size + 1 + 1, 1, none⟩ (.string ⟨#[]⟩)).setCell ⟨w.heap.size + 1 + 1, 2, none⟩ (.string ⟨#[]⟩)).setCell ⟨w.heap.size + 1 + 1, 3, none⟩ (.string ⟨#[]⟩)).setCell ⟨w.heap.size + 1 + 1, 4, none⟩ (.int .i64 0)).setCell ⟨w.heap.size + 1 + 1, 5, none⟩ (.string ⟨#[]⟩)).setCell ⟨w.heap.size + 1 + 1, 6, none⟩ (.string ⟨#[]⟩)).setCell ⟨w.heap.size + 1 + 1, 7, none⟩ (.string ⟨#[]⟩)).setCell ⟨w.heap.size + 1 + 1, 8, none⟩ (.int .i64 0)).setCell ⟨w.heap.size + 1 + 1, 9, none⟩ (.string ⟨#[]⟩)).setCell ⟨w.heap.size + 1 + 1, 10, none⟩ (.string ⟨#[]⟩)).setCell ⟨w.heap.size + 1 + 1, 11, none⟩ (.string ⟨#[]⟩)).drew := ⟨_, rfl⟩
          have hs : W9.heap[w.heap.size + 1 + 1]? = some (.cells #[.int .i64 0, .string ⟨#[]⟩, .string ⟨#[]⟩, .string ⟨#[]⟩, .int .i64 0, .string ⟨#[]⟩, .string ⟨#[]⟩, .string ⟨#[]⟩, .int .i64 0, .string ⟨#[]⟩, .string ⟨#[]⟩, .string ⟨#[]⟩] 51 (0, 0)) := by rw [hW9]; exact drew_boxT hs0
          rw [← hW9] at hbel ⊢
          obtain ⟨e0, e1, e2, e3, e4, e5, e6, e7, e8, e9, e10, e11⟩ := cells12 hs
          refine bodyPost_ret (v := .tuple #[.agg #[.int .i64 0, .string ⟨#[]⟩, .string ⟨#[]⟩, .string ⟨#[]⟩, .int .i64 0, .string ⟨#[]⟩, .string ⟨#[]⟩, .string ⟨#[]⟩, .int .i64 0, .string ⟨#[]⟩, .string ⟨#[]⟩, .string ⟨#[]⟩], .int .i64 4]) (by simp [results, Try.results29, go_sem, e0, e1, e2, e3, e4, e5, e6, e7, e8, e9, e10, e11]) rfl ?_
          exact ⟨by rw [HV.out]; rfl, hbel⟩
        · have q2 : decide ((ts.length : Int) ≤ b) = false := decide_eq_false hbig
          have HHAS : Hid (hasN b ts.length = true) := Lib.hid (by unfold hasN; simp; omega)
          clear hneg hbig
          go_wp2_with fail
          refine wp_region_held_drew (S := (fun w' => w'.cell? ⟨w.heap.size, 1, none⟩ = some (.slice a0 ts.length cap) ∧ w'.cell? ⟨w.heap.size + 1, 0, none⟩ = some (.int .i64 a) ∧ w'.cell? ⟨w.heap.size + 1, 1, none⟩ = some (.int .i64 b) ∧ w'.cell? ⟨w.heap.size + 1, 2, none⟩ = some (.int .i64 c))) (by kernel_rfl) ?hSpbyes0 (fun hHeld => ?_)
          case hSpbyes0 => exact ⟨x1, k0, k1, k2⟩
          refine wpAnyH_take (i := 0) (oi := ⟨some 11, _, _, _, _, _⟩) (v := ?vpbyes0) rfl (by kernel_rfl) (by kernel_rfl) (by kernel_rfl) (fun _ _ _ h => h) (Or.inl ⟨by kernel_rfl, ?ypbyes0⟩) (by assumption) ?rpbyes0
          case ypbyes0 =>
            intro w hSw
            try dsimp only at hSw
            first | (go_simp; done) | (go_simp; with_reducible rfl)
          try simp only [Act.put, List.setIfInBounds_toArray, List.set_cons_zero, List.set_cons_succ]
          refine wpAnyH_take (i := 1) (oi := ⟨some 12, _, _, _, _, _⟩) (v := ?vpbyes1) rfl (by kernel_rfl) (by kernel_rfl) (by kernel_rfl) (fun _ _ _ h => h) (Or.inl ⟨by kernel_rfl, ?ypbyes1⟩) (by assumption) ?rpbyes1
          case ypbyes1 =>
            intro w hSw
            try dsimp only at hSw
            first | (go_simp; done) | (go_simp; with_reducible rfl)
          try simp only [Act.put, List.setIfInBounds_toArray, List.set_cons_zero, List.set_cons_succ]
          refine wpAnyH_take (i := 2) (oi := ⟨some 13, _, _, _, _, _⟩) (v := ?vpbyes2) rfl (by kernel_rfl) (by kernel_rfl) (by kernel_rfl) (fun _ _ _ h => h) (Or.inl ⟨by kernel_rfl, ?ypbyes2⟩) (by assumption) ?rpbyes2
          case ypbyes2 =>
            intro w hSw
            try dsimp only at hSw
            first | (go_simp; done) | (go_simp; with_reducible rfl)
          try simp only [Act.put, List.setIfInBounds_toArray, List.set_cons_zero, List.set_cons_succ]
          refine wpAnyH_take (i := 3) (oi := ⟨some 14, _, _, _, _, _⟩) (v := ?vpbyes3) rfl (by kernel_rfl) (by kernel_rfl) (by kernel_rfl) (fun _ _ _ h => h) (Or.inl ⟨by kernel_rfl, ?ypbyes3⟩) (by assumption) ?rpbyes3
          case ypbyes3 =>
            intro w hSw
            try dsimp only at hSw
            first | (go_simp; done) | (go_simp; with_reducible rfl)
          try simp only [Act.put, List.setIfInBounds_toArray, List.set_cons_zero, List.set_cons_succ]
          refine wpAnyH_take (i := 4) (oi := ⟨some 15, _, _, _, _, _⟩) (v := ?vpbyes4) rfl (by kernel_rfl) (by kernel_rfl) (by kernel_rfl) (fun _ _ _ h => h) (Or.inl ⟨by kernel_rfl, ?ypbyes4⟩) (by assumption) ?rpbyes4
          case ypbyes4 =>
            intro w hSw
            try dsimp only at hSw
            first | (go_simp; done) | (go_simp; with_reducible rfl)
          try simp only [Act.put, List.setIfInBounds_toArray, List.set_cons_zero, List.set_cons_succ]
          refine wpAnyH_take (i := 5) (oi := ⟨some 16, _, _, _, _, _⟩) (v := ?vpbyes5) rfl (by kernel_rfl) (by kernel_rfl) (by kernel_rfl) (fun _ _ _ h => h) (Or.inl ⟨by kernel_rfl, ?ypbyes5⟩) (by assumption) ?rpbyes5
          case ypbyes5 =>
            intro w hSw
            try dsimp only at hSw
            first | (go_simp; done) | (go_simp; with_reducible rfl)
          try simp only [Act.put, List.setIfInBounds_toArray, List.set_cons_zero, List.set_cons_succ]
          refine wpAnyH_take (i := 6) (oi := ⟨some 17, _, _, _, _, _⟩) (v := ?vpbyes6) rfl (by kernel_rfl) (by kernel_rfl) (by kernel_rfl) (fun _ _ _ h => h) (Or.inl ⟨by kernel_rfl, ?ypbyes6⟩) (by assumption) ?rpbyes6
          case ypbyes6 =>
            intro w hSw
            try dsimp only at hSw
            first | (go_simp; done) | (go_simp; with_reducible rfl)
          try simp only [Act.put, List.setIfInBounds_toArray, List.set_cons_zero, List.set_cons_succ]
          refine wpAnyH_take (i := 7) (oi := ⟨some 18, _, _, _, _, _⟩) (v := ?vpbyes7) rfl (by kernel_rfl) (by kernel_rfl) (by kernel_rfl) (fun _ _ _ h => h) (Or.inl ⟨by kernel_rfl, ?ypbyes7⟩) (by assumption) ?rpbyes7
          case ypbyes7 =>
            intro w hSw
            try dsimp only at hSw
            first | (go_simp; done) | (go_simp; with_reducible rfl)
          try simp only [Act.put, List.setIfInBounds_toArray, List.set_cons_zero, List.set_cons_succ]
          refine wpAnyH_take (i := 8) (oi := ⟨some 19, _, _, _, _, _⟩) (v := ?vpbyes8) rfl (by kernel_rfl) (by kernel_rfl) (by kernel_rfl) (fun _ _ _ h => h) (Or.inl ⟨by kernel_rfl, ?ypbyes8⟩) (by assumption) ?rpbyes8
          case ypbyes8 =>
            intro w hSw
            try dsimp only at hSw
            first | (go_simp; done) | (go_simp; with_reducible rfl)
          try simp only [Act.put, List.setIfInBounds_toArray, List.set_cons_zero, List.set_cons_succ]
          refine wpAnyH_take (i := 9) (oi := ⟨some 20, _, _, _, _, _⟩) (v := ?vpbyes9) rfl (by kernel_rfl) (by kernel_rfl) (by kernel_rfl) (fun _ _ _ h => h) (Or.inl ⟨by kernel_rfl, ?ypbyes9⟩) (by assumption) ?rpbyes9
          case ypbyes9 =>
            intro w hSw
            try dsimp only at hSw
            first | (go_simp; done) | (go_simp; with_reducible rfl)
          try simp only [Act.put, List.setIfInBounds_toArray, List.set_cons_zero, List.set_cons_succ]
          refine wpAnyH_take (i := 10) (oi := ⟨some 21, _, _, _, _, _⟩) (v := ?vpbyes10) rfl (by kernel_rfl) (by kernel_rfl) (by kernel_rfl) (fun _ _ _ h => h) (Or.inl ⟨by kernel_rfl, ?ypbyes10⟩) (by assumption) ?rpbyes10
          case ypbyes10 =>
            intro w hSw
            try dsimp only at hSw
            first | (go_simp; done) | (go_simp; with_reducible rfl)
          try simp only [Act.put, List.setIfInBounds_toArray, List.set_cons_zero, List.set_cons_succ]
          refine wpAnyH_take (i := 11) (oi := ⟨some 22, _, _, _, _, _⟩) (v := ?vpbyes11) rfl (by kernel_rfl) (by kernel_rfl) (by kernel_rfl) (fun _ _ _ h => h) (Or.inl ⟨by kernel_rfl, ?ypbyes11⟩) (by assumption) ?rpbyes11
          case ypbyes11 =>
            intro w hSw
            try dsimp only at hSw
            first | (go_simp; done) | (go_simp; with_reducible rfl)
          try simp only [Act.put, List.setIfInBounds_toArray, List.set_cons_zero, List.set_cons_succ]
          refine wpAnyH_take (i := 12) (oi := ⟨some 23, _, _, _, _, _⟩) (v := ?vpbyes12) rfl (by kernel_rfl) (by kernel_rfl) (by kernel_rfl) (fun _ _ _ h => h) (Or.inl ⟨by kernel_rfl, ?ypbyes12⟩) (by assumption) ?rpbyes12
          case ypbyes12 =>
            intro w hSw
            try dsimp only at hSw
            first | (go_simp; done) | (go_simp; with_reducible rfl)
          try simp only [Act.put, List.setIfInBounds_toArray, List.set_cons_zero, List.set_cons_succ]
          refine wpAnyH_done (by kernel_rfl) ?_ _
          clear x0 x1 x2 x3 k0 k1 k2 k3
          go_wp2_with fail
          exact ⟨⟨2, by omega, rfl, Lib.hid ⟨hb.out.1.drew, fun _ => hb.out.2.1 (by omega), fun _ => HHAS.out, fun h => by omega⟩⟩, by simp [intOf]⟩
    · rw [show ((2 : Nat) : Int) = 2 from rfl]
      obtain ⟨x0, x1, x2, x3⟩ := cells2 HX.out
      obtain ⟨k0, k1, k2, k3⟩ := cells3 HK.out
      by_cases hneg : c < 0
      · have q1 : decide (c < 0) = true := decide_eq_true hneg
        have hno : hasN c ts.length = false := by unfold hasN; simp; omega
        have HV : Hid (tripT G ts a b c = (⟨.none, .none, .none⟩, 4)) := Lib.hid (by unfold tripT; rw [if_neg (by simp [hno])])
        clear hneg hno
        go_wp2_with fail
        refine wp_region_held_drew (S := (fun w' => w'.cell? ⟨w.heap.size, 1, none⟩ = some (.slice a0 ts.length cap) ∧ w'.cell? ⟨w.heap.size + 1, 0, none⟩ = some (.int .i64 a) ∧ w'.cell? ⟨w.heap.size + 1, 1, none⟩ = some (.int .i64 b) ∧ w'.cell? ⟨w.heap.size + 1, 2, none⟩ = some (.int .i64 c))) (by kernel_rfl) ?hSpcneg0 (fun hHeld => ?_)
        case hSpcneg0 => exact ⟨x1, k0, k1, k2⟩
        refine wpAnyH_take (i := 0) (oi := ⟨some 11, _, _, _, _, _⟩) (v := ?vpcneg0) rfl (by kernel_rfl) (by kernel_rfl) (by kernel_rfl) (fun _ _ _ h => h) (Or.inl ⟨by kernel_rfl, ?ypcneg0⟩) (by assumption) ?rpcneg0
        case ypcneg0 =>
          intro w hSw
          try dsimp only at hSw
          first | (go_simp; done) | (go_simp; with_reducible rfl)
        try simp only [Act.put, List.setIfInBounds_toArray, List.set_cons_zero, List.set_cons_succ]
        refine wpAnyH_take (i := 1) (oi := ⟨some 12, _, _, _, _, _⟩) (v := ?vpcneg1) rfl (by kernel_rfl) (by kernel_rfl) (by kernel_rfl) (fun _ _ _ h => h) (Or.inl ⟨by kernel_rfl, ?ypcneg1⟩) (by assumption) ?rpcneg1
        case ypcneg1 =>
          intro w hSw
          try dsimp only at hSw
          first | (go_simp; done) | (go_simp; with_reducible rfl)
        try simp only [Act.put, List.setIfInBounds_toArray, List.set_cons_zero, List.set_cons_succ]
        refine wpAnyH_take (i := 2) (oi := ⟨some 13, _, _, _, _, _⟩) (v := ?vpcneg2) rfl (by kernel_rfl) (by kernel_rfl) (by kernel_rfl) (fun _ _ _ h => h) (Or.inl ⟨by kernel_rfl, ?ypcneg2⟩) (by assumption) ?rpcneg2
        case ypcneg2 =>
          intro w hSw
          try dsimp only at hSw
          first | (go_simp; done) | (go_simp; with_reducible rfl)
        try simp only [Act.put, List.setIfInBounds_toArray, List.set_cons_zero, List.set_cons_succ]
        refine wpAnyH_take (i := 3) (oi := ⟨some 14, _, _, _, _, _⟩) (v := ?vpcneg3) rfl (by kernel_rfl) (by kernel_rfl) (by kernel_rfl) (fun _ _ _ h => h) (Or.inl ⟨by kernel_rfl, ?ypcneg3⟩) (by assumption) ?rpcneg3
        case ypcneg3 =>
          intro w hSw
          try dsimp only at hSw
          first | (go_simp; done) | (go_simp; with_reducible rfl)
        try simp only [Act.put, List.setIfInBounds_toArray, List.set_cons_zero, List.set_cons_succ]
        refine wpAnyH_take (i := 4) (oi := ⟨some 15, _, _, _, _, _⟩) (v := ?vpcneg4) rfl (by kernel_rfl) (by kernel_rfl) (by kernel_rfl) (fun _ _ _ h => h) (Or.inl ⟨by kernel_rfl, ?ypcneg4⟩) (by assumption) ?rpcneg4
        case ypcneg4 =>
          intro w hSw
          try dsimp only at hSw
          first | (go_simp; done) | (go_simp; with_reducible rfl)
        try simp only [Act.put, List.setIfInBounds_toArray, List.set_cons_zero, List.set_cons_succ]
        refine wpAnyH_take (i := 5) (oi := ⟨some 16, _, _, _, _, _⟩) (v := undef) rfl (by kernel_rfl) (by kernel_rfl) (by kernel_rfl) (fun _ _ _ h => h) (Or.inr ⟨by kernel_rfl, rfl⟩) (by assumption) ?rpcneg5
        try simp only [Act.put, List.setIfInBounds_toArray, List.set_cons_zero, List.set_cons_succ]
        refine wpAnyH_take (i := 6) (oi := ⟨some 17, _, _, _, _, _⟩) (v := undef) rfl (by kernel_rfl) (by kernel_rfl) (by kernel_rfl) (fun _ _ _ h => h) (Or.inr ⟨by kernel_rfl, rfl⟩) (by assumption) ?rpcneg6
        try simp only [Act.put, List.setIfInBounds_toArray, List.set_cons_zero, List.set_cons_succ]
        refine wpAnyH_take (i := 7) (oi := ⟨some 18, _, _, _, _, _⟩) (v := undef) rfl (by kernel_rfl) (by kernel_rfl) (by kernel_rfl) (fun _ _ _ h => h) (Or.inr ⟨by kernel_rfl, rfl⟩) (by assumption) ?rpcneg7
        try simp only [Act.put, List.setIfInBounds_toArray, List.set_cons_zero, List.set_cons_succ]
        refine wpAnyH_take (i := 8) (oi := ⟨some 19, _, _, _, _, _⟩) (v := undef) rfl (by kernel_rfl) (by kernel_rfl) (by kernel_rfl) (fun _ _ _ h => h) (Or.inr ⟨by kernel_rfl, rfl⟩) (by assumption) ?rpcneg8
        try simp only [Act.put, List.setIfInBounds_toArray, List.set_cons_zero, List.set_cons_succ]
        refine wpAnyH_take (i := 9) (oi := ⟨some 20, _, _, _, _, _⟩) (v := undef) rfl (by kernel_rfl) (by kernel_rfl) (by kernel_rfl) (fun _ _ _ h => h) (Or.inr ⟨by kernel_rfl, rfl⟩) (by assumption) ?rpcneg9
        try simp only [Act.put, List.setIfInBounds_toArray, List.set_cons_zero, List.set_cons_succ]
        refine wpAnyH_take (i := 10) (oi := ⟨some 21, _, _, _, _, _⟩) (v := undef) rfl (by kernel_rfl) (by kernel_rfl) (by kernel_rfl) (fun _ _ _ h => h) (Or.inr ⟨by kernel_rfl, rfl⟩) (by assumption) ?rpcneg10
        try simp only [Act.put, List.setIfInBounds_toArray, List.set_cons_zero, List.set_cons_succ]
        refine wpAnyH_take (i := 11) (oi := ⟨some 22, _, _, _, _, _⟩) (v := undef) rfl (by kernel_rfl) (by kernel_rfl) (by kernel_rfl) (fun _ _ _ h => h) (Or.inr ⟨by kernel_rfl, rfl⟩) (by assumption) ?rpcneg11
        try simp only [Act.put, List.setIfInBounds_toArray, List.set_cons_zero, List.set_cons_succ]
        refine wpAnyH_take (i := 12) (oi := ⟨some 23, _, _, _, _, _⟩) (v := ?vpcneg12) rfl (by kernel_rfl) (by kernel_rfl) (by kernel_rfl) (fun _ _ _ h => h) (Or.inl ⟨by kernel_rfl, ?ypcneg12⟩) (by assumption) ?rpcneg12
        case ypcneg12 =>
          intro w hSw
          try dsimp only at hSw
          first | (go_simp; done) | (go_simp; with_reducible rfl)
        try simp only [Act.put, List.setIfInBounds_toArray, List.set_cons_zero, List.set_cons_succ]
        refine wpAnyH_done (by kernel_rfl) ?_ _
        clear x0 x1 x2 x3 k0 k1 k2 k3
        obtain ⟨y0, y1, y2, y3, y4, y5, y6, y7, y8, y9, y10, y11⟩ := cells12 HZ.out
        obtain ⟨f0, f1, f2, f3, f4, f5, f6, f7, f8, f9, f10, f11⟩ := froz12 HZ.out
        go_wp2_with fail
        have hs0 := set12 HZ.out (.int .i64 0) (.string ⟨#[]⟩) (.string ⟨#[]⟩) (.string ⟨#[]⟩) (.int .i64 0) (.string ⟨#[]⟩) (.string ⟨#[]⟩) (.string ⟨#[]⟩) (.int .i64 0) (.string ⟨#[]⟩) (.string ⟨#[]⟩) (.string ⟨#[]⟩)
        have hbel := (below12 (b := w.heap.size + 1 + 1) HB.out (by omega) (.int .i64 0) (.string ⟨#[]⟩) (.string ⟨#[]⟩) (.string ⟨#[]⟩) (.int .i64 0) (.string ⟨#[]⟩) (.string ⟨#[]⟩) (.string ⟨#[]⟩) (.int .i64 0) (.string ⟨#[]⟩) (.string ⟨#[]⟩) (.string ⟨#[]⟩)).drew
        obtain ⟨W9, hW9⟩ : ∃ W9, W9 = ((((((((((((wr.setCell ⟨w.heap.size + 1 + 1, 0, none⟩ (.int .i64 0)).setCell ⟨w.heap.size + 1 + 1, 1, none⟩ (.string ⟨#[]⟩)).setCell ⟨w.heap.size + 1 + 1, 2, none⟩ (.string ⟨#[]⟩)).setCell ⟨w.heap.size + 1 + 1, 3, none⟩ (.string ⟨#[]⟩)).setCell ⟨w.heap.size + 1 + 1, 4, none⟩ (.int .i64 0)).setCell ⟨w.heap.size + 1 + 1, 5, none⟩ (.string ⟨#[]⟩)).setCell ⟨w.heap.size + 1 + 1, 6, none⟩ (.string ⟨#[]⟩)).setCell ⟨w.heap.size + 1 + 1, 7, none⟩ (.string ⟨#[]⟩)).setCell ⟨w.heap.size + 1 + 1, 8, none⟩ (.int .i64 0)).setCell ⟨w.heap.size + 1 + 1, 9, none⟩ (.string ⟨#[]⟩)).setCell ⟨w.heap.size + 1 + 1, 10, none⟩ (.string ⟨#[]⟩)).setCell ⟨w.heap.size + 1 + 1, 11, none⟩ (.string ⟨#[]⟩)).drew := ⟨_, rfl⟩
        have hs : W9.heap[w.heap.size + 1 + 1]? = some (.cells #[.int .i64 0, .string ⟨#[]⟩, .string ⟨#[]⟩, .string ⟨#[]⟩, .int .i64 0, .string ⟨#[]⟩, .string ⟨#[]⟩, .string ⟨#[]⟩, .int .i64 0, .string ⟨#[]⟩, .string ⟨#[]⟩, .string ⟨#[]⟩] 51 (0, 0)) := by rw [hW9]; exact drew_boxT hs0
        rw [← hW9] at hbel ⊢
        obtain ⟨e0, e1, e2, e3, e4, e5, e6, e7, e8, e9, e10, e11⟩ := cells12 hs
        refine bodyPost_ret (v := .tuple #[.agg #[.int .i64 0, .string ⟨#[]⟩, .string ⟨#[]⟩, .string ⟨#[]⟩, .int .i64 0, .string ⟨#[]⟩, .string ⟨#[]⟩, .string ⟨#[]⟩, .int .i64 0, .string ⟨#[]⟩, .string ⟨#[]⟩, .string ⟨#[]⟩], .int .i64 4]) (by simp [results, Try.results29, go_sem, e0, e1, e2, e3, e4, e5, e6, e7, e8, e9, e10, e11]) rfl ?_
        exact ⟨by rw [HV.out]; rfl, hbel⟩
      · have q1 : decide (c < 0) = false := decide_eq_false hneg
        by_cases hbig : (ts.length : Int) ≤ c
        · have q2 : decide ((ts.length : Int) ≤ c) = true := decide_eq_true hbig
          have hno : hasN c ts.length = false := by unfold hasN; simp; omega
          have HV : Hid (tripT G ts a b c = (⟨.none, .none, .none⟩, 4)) := Lib.hid (by unfold tripT; rw [if_neg (by simp [hno])])
          clear hneg hno hbig
          go_wp2_with fail
          refine wp_region_held_drew (S := (fun w' => w'.cell? ⟨w.heap.size, 1, none⟩ = some (.slice a0 ts.length cap) ∧ w'.cell? ⟨w.heap.size + 1, 0, none⟩ = some (.int .i64 a) ∧ w'.cell? ⟨w.heap.size + 1, 1, none⟩ = some (.int .i64 b) ∧ w'.cell? ⟨w.heap.size + 1, 2, none⟩ = some (.int .i64 c))) (by kernel_rfl) ?hSpcbig0 (fun hHeld => ?_)
          case hSpcbig0 => exact ⟨x1, k0, k1, k2⟩
          refine wpAnyH_take (i := 0) (oi := ⟨some 11, _, _, _, _, _⟩) (v := ?vpcbig0) rfl (by kernel_rfl) (by kernel_rfl) (by kernel_rfl) (fun _ _ _ h => h) (Or.inl ⟨by kernel_rfl, ?ypcbig0⟩) (by assumption) ?rpcbig0
          case ypcbig0 =>
            intro w hSw
            try dsimp only at hSw
            first | (go_simp; done) | (go_simp; with_reducible rfl)
          try simp only [Act.put, List.setIfInBounds_toArray, List.set_cons_zero, List.set_cons_succ]
          refine wpAnyH_take (i := 1) (oi := ⟨some 12, _, _, _, _, _⟩) (v := ?vpcbig1) rfl (by kernel_rfl) (by kernel_rfl) (by kernel_rfl) (fun _ _ _ h => h) (Or.inl ⟨by kernel_rfl, ?ypcbig1⟩) (by assumption) ?rpcbig1
          case ypcbig1 =>
            intro w hSw
            try dsimp only at hSw
            first | (go_simp; done) | (go_simp; with_reducible rfl)
          try simp only [Act.put, List.setIfInBounds_toArray, List.set_cons_zero, List.set_cons_succ]
          refine wpAnyH_take (i := 2) (oi := ⟨some 13, _, _, _, _, _⟩) (v := ?vpcbig2) rfl (by kernel_rfl) (by kernel_rfl) (by kernel_rfl) (fun _ _ _ h => h) (Or.inl ⟨by kernel_rfl, ?ypcbig2⟩) (by assumption) ?rpcbig2
          case ypcbig2 =>
            intro w hSw
            try dsimp only at hSw
            first | (go_simp; done) | (go_simp; with_reducible rfl)
          try simp only [Act.put, List.setIfInBounds_toArray, List.set_cons_zero, List.set_cons_succ]
          refine wpAnyH_take (i := 3) (oi := ⟨some 14, _, _, _, _, _⟩) (v := ?vpcbig3) rfl (by kernel_rfl) (by kernel_rfl) (by kernel_rfl) (fun _ _ _ h => h) (Or.inl ⟨by kernel_rfl, ?ypcbig3⟩) (by assumption) ?rpcbig3
          case ypcbig3 =>
            intro w hSw
            try dsimp only at hSw
            first | (go_simp; done) | (go_simp; with_reducible rfl)
          try simp only [Act.put, List.setIfInBounds_toArray, List.set_cons_zero, List.set_cons_succ]
          refine wpAnyH_take (i := 4) (oi := ⟨some 15, _, _, _, _, _⟩) (v := ?vpcbig4) rfl (by kernel_rfl) (by kernel_rfl) (by kernel_rfl) (fun _ _ _ h => h) (Or.inl ⟨by kernel_rfl, ?ypcbig4⟩) (by assumption) ?rpcbig4
          case ypcbig4 =>
            intro w hSw
            try dsimp only at hSw
            first | (go_simp; done) | (go_simp; with_reducible rfl)
          try simp only [Act.put, List.setIfInBounds_toArray, List.set_cons_zero, List.set_cons_succ]
          refine wpAnyH_take (i := 5) (oi := ⟨some 16, _, _, _, _, _⟩) (v := ?vpcbig5) rfl (by kernel_rfl) (by kernel_rfl) (by kernel_rfl) (fun _ _ _ h => h) (Or.inl ⟨by kernel_rfl, ?ypcbig5⟩) (by assumption) ?rpcbig5
          case ypcbig5 =>
            intro w hSw
            try dsimp only at hSw
            first | (go_simp; done) | (go_simp; with_reducible rfl)
          try simp only [Act.put, List.setIfInBounds_toArray, List.set_cons_zero, List.set_cons_succ]
          refine wpAnyH_take (i := 6) (oi := ⟨some 17, _, _, _, _, _⟩) (v := ?vpcbig6) rfl (by kernel_rfl) (by kernel_rfl) (by kernel_rfl) (fun _ _ _ h => h) (Or.inl ⟨by kernel_rfl, ?ypcbig6⟩) (by assumption) ?rpcbig6
          case ypcbig6 =>
            intro w hSw
            try dsimp only at hSw
            first | (go_simp; done) | (go_simp; with_reducible rfl)
          try simp only [Act.put, List.setIfInBounds_toArray, List.set_cons_zero, List.set_cons_succ]
          refine wpAnyH_take (i := 7) (oi := ⟨some 18, _, _, _, _, _⟩) (v := ?vpcbig7) rfl (by kernel_rfl) (by kernel_rfl) (by kernel_rfl) (fun _ _ _ h => h) (Or.inl ⟨by kernel_rfl, ?ypcbig7⟩) (by assumption) ?rpcbig7
          case ypcbig7 =>
            intro w hSw
            try dsimp only at hSw
            first | (go_simp; done) | (go_simp; with_reducible rfl)
          try simp only [Act.put, List.setIfInBounds_toArray, List.set_cons_zero, List.set_cons_succ]
          refine wpAnyH_take (i := 8) (oi := ⟨some 19, _, _, _, _, _⟩) (v := ?vpcbig8) rfl (by kernel_rfl) (by kernel_rfl) (by kernel_rfl) (fun _ _ _ h => h) (Or.inl ⟨by kernel_rfl, ?ypcbig8⟩) (by assumption) ?rpcbig8
          case ypcbig8 =>
            intro w hSw
            try dsimp only at hSw
            first | (go_simp; done) | (go_simp; with_reducible rfl)
          try simp only [Act.put, List.setIfInBounds_toArray, List.set_cons_zero, List.set_cons_succ]
          refine wpAnyH_take (i := 9) (oi := ⟨some 20, _, _, _, _, _⟩) (v := ?vpcbig9) rfl (by kernel_rfl) (by kernel_rfl) (by kernel_rfl) (fun _ _ _ h => h) (Or.inl ⟨by kernel_rfl, ?ypcbig9⟩) (by assumption) ?rpcbig9
          case ypcbig9 =>
            intro w hSw
            try dsimp only at hSw
            first | (go_simp; done) | (go_simp; with_reducible rfl)
          try simp only [Act.put, List.setIfInBounds_toArray, List.set_cons_zero, List.set_cons_succ]
          refine wpAnyH_take (i := 10) (oi := ⟨some 21, _, _, _, _, _⟩) (v := ?vpcbig10) rfl (by kernel_rfl) (by kernel_rfl) (by kernel_rfl) (fun _ _ _ h => h) (Or.inl ⟨by kernel_rfl, ?ypcbig10⟩) (by assumption) ?rpcbig10
          case ypcbig10 =>
            intro w hSw
            try dsimp only at hSw
            first | (go_simp; done) | (go_simp; with_reducible rfl)
          try simp only [Act.put, List.setIfInBounds_toArray, List.set_cons_zero, List.set_cons_succ]
          refine wpAnyH_take (i := 11) (oi := ⟨some 22, _, _, _, _, _⟩) (v := ?vpcbig11) rfl (by kernel_rfl) (by kernel_rfl) (by kernel_rfl) (fun _ _ _ h => h) (Or.inl ⟨by kernel_rfl, ?ypcbig11⟩) (by assumption) ?rpcbig11
          case ypcbig11 =>
            intro w hSw
            try dsimp only at hSw
            first | (go_simp; done) | (go_simp; with_reducible rfl)
          try simp only [Act.put, List.setIfInBounds_toArray, List.set_cons_zero, List.set_cons_succ]
          refine wpAnyH_take (i := 12) (oi := ⟨some 23, _, _, _, _, _⟩) (v := ?vpcbig12) rfl (by kernel_rfl) (by kernel_rfl) (by kernel_rfl) (fun _ _ _ h => h) (Or.inl ⟨by kernel_rfl, ?ypcbig12⟩) (by assumption) ?rpcbig12
          case ypcbig12 =>
            intro w hSw
            try dsimp only at hSw
            first | (go_simp; done) | (go_simp; with_reducible rfl)
          try simp only [Act.put, List.setIfInBounds_toArray, List.set_cons_zero, List.set_cons_succ]
          refine wpAnyH_done (by kernel_rfl) ?_ _
          clear x0 x1 x2 x3 k0 k1 k2 k3
          obtain ⟨y0, y1, y2, y3, y4, y5, y6, y7, y8, y9, y10, y11⟩ := cells12 HZ.out
          obtain ⟨f0, f1, f2, f3, f4, f5, f6, f7, f8, f9, f10, f11⟩ := froz12 HZ.out
          go_wp2_with fail
          have hs0 := set12 HZ.out (.int .i64 0) (.string ⟨#[]⟩) (.string ⟨#[]⟩) (.string ⟨#[]⟩) (.int .i64 0) (.string ⟨#[]⟩) (.string ⟨#[]⟩) (.string ⟨#[]⟩) (.int .i64 0) (.string ⟨#[]⟩) (.string ⟨#[]⟩) (.string ⟨#[]⟩)
          have hbel := (below12 (b := w.heap.size + 1 + 1) HB.out (by omega) (.int .i64 0) (.string ⟨#[]⟩) (.string ⟨#[]⟩) (.string ⟨#[]⟩) (.int .i64 0) (.string ⟨#[]⟩) (.string ⟨#[]⟩) (.string ⟨#[]⟩) (.int .i64 0) (.string ⟨#[]⟩) (.string ⟨#[]⟩) (.string ⟨#[]⟩)).drew
          obtain ⟨W9, hW9⟩ : ∃ W9, W9 = ((((((((((((wr.setCell ⟨w.heap.size + 1 + 1, 0, none⟩ (.int .i64 0)).setCell ⟨w.heap.size + 1 + 1, 1, none⟩ (.string ⟨#[]⟩)).setCell ⟨w.heap.size + 1 + 1, 2, none⟩ (.string ⟨#[]⟩)).setCell ⟨w.heap.size + 1 + 1, 3, none⟩ (.string ⟨#[]⟩)).setCell ⟨w.heap.size + 1 + 1, 4, none⟩ (.int .i64 0)).setCell ⟨w.heap.size + 1 + 1, 5, none⟩ (.string ⟨#[]⟩)).setCell ⟨w.heap.size + 1 + 1, 6, none⟩ (.string ⟨#[]⟩)).setCell ⟨w.heap.size + 1 + 1, 7, none⟩ (.string ⟨#[]⟩)).setCell ⟨w.heap.size + 1 + 1, 8, none⟩ (.int .i64 0)).setCell ⟨w.heap.size + 1 + 1, 9, none⟩ (.string ⟨#[]⟩)).setCell ⟨w.heap.size + 1 + 1, 10, none⟩ (.string ⟨#[]⟩)).setCell ⟨w.heap.size + 1 + 1, 11, none⟩ (.string ⟨#[]⟩)).drew := ⟨_, rfl⟩
          have hs : W9.heap[w.heap.size + 1 + 1]? = some (.cells #[.int .i64 0, .string ⟨#[]⟩, .string ⟨#[]⟩, .string ⟨#[]⟩, .int .i64 0, .string ⟨#[]⟩, .string ⟨#[]⟩, .string ⟨#[]⟩, .int .i64 0, .string ⟨#[]⟩, .string ⟨#[]⟩, .string ⟨#[]⟩] 51 (0, 0)) := by rw [hW9]; exact drew_boxT hs0
          rw [← hW9] at hbel ⊢
          obtain ⟨e0, e1, e2, e3, e4, e5, e6, e7, e8, e9, e10, e11⟩ := cells12 hs
          refine bodyPost_ret (v := .tuple #[.agg #[.int .i64 0, .string ⟨#[]⟩, .string ⟨#[]⟩, .string ⟨#[]⟩, .int .i64 0, .string ⟨#[]⟩, .string ⟨#[]⟩, .string ⟨#[]⟩, .int .i64 0, .string ⟨#[]⟩, .string ⟨#[]⟩, .string ⟨#[]⟩], .int .i64 4]) (by simp [results, Try.results29, go_sem, e0, e1, e2, e3, e4, e5, e6, e7, e8, e9, e10, e11]) rfl ?_
          exact ⟨by rw [HV.out]; rfl, hbel⟩
        · have q2 : decide ((ts.length : Int) ≤ c) = false := decide_eq_false hbig
          have HHAS : Hid (hasN c ts.length = true) := Lib.hid (by unfold hasN; simp; omega)
          clear hneg hbig
          go_wp2_with fail
          refine wp_region_held_drew (S := (fun w' => w'.cell? ⟨w.heap.size, 1, none⟩ = some (.slice a0 ts.length cap) ∧ w'.cell? ⟨w.heap.size + 1, 0, none⟩ = some (.int .i64 a) ∧ w'.cell? ⟨w.heap.size + 1, 1, none⟩ = some (.int .i64 b) ∧ w'.cell? ⟨w.heap.size + 1, 2, none⟩ = some (.int .i64 c))) (by kernel_rfl) ?hSpcyes0 (fun hHeld => ?_)
          case hSpcyes0 => exact ⟨x1, k0, k1, k2⟩
          refine wpAnyH_take (i := 0) (oi := ⟨some 11, _, _, _, _, _⟩) (v := ?vpcyes0) rfl (by kernel_rfl) (by kernel_rfl) (by kernel_rfl) (fun _ _ _ h => h) (Or.inl ⟨by kernel_rfl, ?ypcyes0⟩) (by assumption) ?rpcyes0
          case ypcyes0 =>
            intro w hSw
            try dsimp only at hSw
            first | (go_simp; done) | (go_simp; with_reducible rfl)
          try simp only [Act.put, List.setIfInBounds_toArray, List.set_cons_zero, List.set_cons_succ]
          refine wpAnyH_take (i := 1) (oi := ⟨some 12, _, _, _, _, _⟩) (v := ?vpcyes1) rfl (by kernel_rfl) (by kernel_rfl) (by kernel_rfl) (fun _ _ _ h => h) (Or.inl ⟨by kernel_rfl, ?ypcyes1⟩) (by assumption) ?rpcyes1
          case ypcyes1 =>
            intro w hSw
            try dsimp only at hSw
            first | (go_simp; done) | (go_simp; with_reducible rfl)
          try simp only [Act.put, List.setIfInBounds_toArray, List.set_cons_zero, List.set_cons_succ]
          refine wpAnyH_take (i := 2) (oi := ⟨some 13, _, _, _, _, _⟩) (v := ?vpcyes2) rfl (by kernel_rfl) (by kernel_rfl) (by kernel_rfl) (fun _ _ _ h => h) (Or.inl ⟨by kernel_rfl, ?ypcyes2⟩) (by assumption) ?rpcyes2
          case ypcyes2 =>
            intro w hSw
            try dsimp only at hSw
            first | (go_simp; done) | (go_simp; with_reducible rfl)
          try simp only [Act.put, List.setIfInBounds_toArray, List.set_cons_zero, List.set_cons_succ]
          refine wpAnyH_take (i := 3) (oi := ⟨some 14, _, _, _, _, _⟩) (v := ?vpcyes3) rfl (by kernel_rfl) (by kernel_rfl) (by kernel_rfl) (fun _ _ _ h => h) (Or.inl ⟨by kernel_rfl, ?ypcyes3⟩) (by assumption) ?rpcyes3
          case ypcyes3 =>
            intro w hSw
            try dsimp only at hSw
            first | (go_simp; done) | (go_simp; with_reducible rfl)
          try simp only [Act.put, List.setIfInBounds_toArray, List.set_cons_zero, List.set_cons_succ]
          refine wpAnyH_take (i := 4) (oi := ⟨some 15, _, _, _, _, _⟩) (v := ?vpcyes4) rfl (by kernel_rfl) (by kernel_rfl) (by kernel_rfl) (fun _ _ _ h => h) (Or.inl ⟨by kernel_rfl, ?ypcyes4⟩) (by assumption) ?rpcyes4
          case ypcyes4 =>
            intro w hSw
            try dsimp only at hSw
            first | (go_simp; done) | (go_simp; with_reducible rfl)
          try simp only [Act.put, List.setIfInBounds_toArray, List.set_cons_zero, List.set_cons_succ]
          refine wpAnyH_take (i := 5) (oi := ⟨some 16, _, _, _, _, _⟩) (v := ?vpcyes5) rfl (by kernel_rfl) (by kernel_rfl) (by kernel_rfl) (fun _ _ _ h => h) (Or.inl ⟨by kernel_rfl, ?ypcyes5⟩) (by assumption) ?rpcyes5
          case ypcyes5 =>
            intro w hSw
            try dsimp only at hSw
            first | (go_simp; done) | (go_simp; with_reducible rfl)
          try simp only [Act.put, List.setIfInBounds_toArray, List.set_cons_zero, List.set_cons_succ]
          refine wpAnyH_take (i := 6) (oi := ⟨some 17, _, _, _, _, _⟩) (v := ?vpcyes6) rfl (by kernel_rfl) (by kernel_rfl) (by kernel_rfl) (fun _ _ _ h => h) (Or.inl ⟨by kernel_rfl, ?ypcyes6⟩) (by assumption) ?rpcyes6
          case ypcyes6 =>
            intro w hSw
            try dsimp only at hSw
            first | (go_simp; done) | (go_simp; with_reducible rfl)
          try simp only [Act.put, List.setIfInBounds_toArray, List.set_cons_zero, List.set_cons_succ]
          refine wpAnyH_take (i := 7) (oi := ⟨some 18, _, _, _, _, _⟩) (v := ?vpcyes7) rfl (by kernel_rfl) (by kernel_rfl) (by kernel_rfl) (fun _ _ _ h => h) (Or.inl ⟨by kernel_rfl, ?ypcyes7⟩) (by assumption) ?rpcyes7
          case ypcyes7 =>
            intro w hSw
            try dsimp only at hSw
            first | (go_simp; done) | (go_simp; with_reducible rfl)
          try simp only [Act.put, List.setIfInBounds_toArray, List.set_cons_zero, List.set_cons_succ]
          refine wpAnyH_take (i := 8) (oi := ⟨some 19, _, _, _, _, _⟩) (v := ?vpcyes8) rfl (by kernel_rfl) (by kernel_rfl) (by kernel_rfl) (fun _ _ _ h => h) (Or.inl ⟨by kernel_rfl, ?ypcyes8⟩) (by assumption) ?rpcyes8
          case ypcyes8 =>
            intro w hSw
            try dsimp only at hSw
            first | (go_simp; done) | (go_simp; with_reducible rfl)
          try simp only [Act.put, List.setIfInBounds_toArray, List.set_cons_zero, List.set_cons_succ]
          refine wpAnyH_take (i := 9) (oi := ⟨some 20, _, _, _, _, _⟩) (v := ?vpcyes9) rfl (by kernel_rfl) (by kernel_rfl) (by kernel_rfl) (fun _ _ _ h => h) (Or.inl ⟨by kernel_rfl, ?ypcyes9⟩) (by assumption) ?rpcyes9
          case ypcyes9 =>
            intro w hSw
            try dsimp only at hSw
            first | (go_simp; done) | (go_simp; with_reducible rfl)
          try simp only [Act.put, List.setIfInBounds_toArray, List.set_cons_zero, List.set_cons_succ]
          refine wpAnyH_take (i := 10) (oi := ⟨some 21, _, _, _, _, _⟩) (v := ?vpcyes10) rfl (by kernel_rfl) (by kernel_rfl) (by kernel_rfl) (fun _ _ _ h => h) (Or.inl ⟨by kernel_rfl, ?ypcyes10⟩) (by assumption) ?rpcyes10
          case ypcyes10 =>
            intro w hSw
            try dsimp only at hSw
            first | (go_simp; done) | (go_simp; with_reducible rfl)
          try simp only [Act.put, List.setIfInBounds_toArray, List.set_cons_zero, List.set_cons_succ]
          refine wpAnyH_take (i := 11) (oi := ⟨some 22, _, _, _, _, _⟩) (v := ?vpcyes11) rfl (by kernel_rfl) (by kernel_rfl) (by kernel_rfl) (fun _ _ _ h => h) (Or.inl ⟨by kernel_rfl, ?ypcyes11⟩) (by assumption) ?rpcyes11
          case ypcyes11 =>
            intro w hSw
            try dsimp only at hSw
            first | (go_simp; done) | (go_simp; with_reducible rfl)
          try simp only [Act.put, List.setIfInBounds_toArray, List.set_cons_zero, List.set_cons_succ]
          refine wpAnyH_take (i := 12) (oi := ⟨some 23, _, _, _, _, _⟩) (v := ?vpcyes12) rfl (by kernel_rfl) (by kernel_rfl) (by kernel_rfl) (fun _ _ _ h => h) (Or.inl ⟨by kernel_rfl, ?ypcyes12⟩) (by assumption) ?rpcyes12
          case ypcyes12 =>
            intro w hSw
            try dsimp only at hSw
            first | (go_simp; done) | (go_simp; with_reducible rfl)
          try simp only [Act.put, List.setIfInBounds_toArray, List.set_cons_zero, List.set_cons_succ]
          refine wpAnyH_done (by kernel_rfl) ?_ _
          clear x0 x1 x2 x3 k0 k1 k2 k3
          go_wp2_with fail
          exact ⟨⟨3, by omega, rfl, Lib.hid ⟨hb.out.1.drew, fun _ => hb.out.2.1 (by omega), fun _ => hb.out.2.2.1 (by omega), fun _ => HHAS.out⟩⟩, by simp [intOf]⟩
    · rw [show ((3 : Nat) : Int) = 3 from rfl]
      have ha := hb.out.2.1 (by omega)
      have hb2 := hb.out.2.2.1 (by omega)
      have hc := hb.out.2.2.2 (by omega)
      have HTT : Hid (tripT G ts a b c = (if goodTri G ⟨ts.getD a.toNat .none, ts.getD b.toNat .none, ts.getD c.toNat .none⟩ then (⟨ts.getD a.toNat .none, ts.getD b.toNat .none, ts.getD c.toNat .none⟩, 0) else (⟨.none, .none, .none⟩, 3))) := Lib.hid (by unfold tripT; rw [if_pos (by simp [ha, hb2, hc])])
      unfold hasN at ha hb2 hc
      simp only [Bool.and_eq_true, decide_eq_true_eq] at ha hb2 hc
      obtain ⟨ja, hja⟩ : ∃ ja : Nat, a = ja := ⟨a.toNat, by omega⟩
      obtain ⟨jb, hjb⟩ : ∃ jb : Nat, b = jb := ⟨b.toNat, by omega⟩
      obtain ⟨jc, hjc⟩ : ∃ jc : Nat, c = jc := ⟨c.toNat, by omega⟩
      subst hja; subst hjb; subst hjc
      have hla : ja < ts.length := by omega
      have hlb : jb < ts.length := by omega
      have hlc : jc < ts.length := by omega
      simp only [Int.toNat_natCast] at HTT
      rw [show ts.getD ja .none = ts[ja] by simp [hla], show ts.getD jb .none = ts[jb] by simp [hlb], show ts.getD jc .none = ts[jc] by simp [hlc]] at HTT
      obtain ⟨g, cap1, hv, hg0, hg, r0, r1, r2, r3⟩ := doc_at (HR.out.below HB.out) ja hla
      obtain ⟨g2, cap2, hv2, _, _, r4, r5, r6, r7⟩ := doc_at (HR.out.below HB.out) jb hlb
      obtain ⟨g3, cap3, hv3, _, _, r8, r9, r10, r11⟩ := doc_at (HR.out.below HB.out) jc hlc
      obtain rfl : a0 = some ⟨g, 0, none⟩ := by injection hv
      obtain rfl : g = g2 := by injection hv2 with hv2 _ _; injection hv2 with hv2; injection hv2
      obtain rfl : g = g3 := by injection hv3 with hv3 _ _; injection hv3 with hv3; injection hv3
      obtain ⟨t, ht⟩ : ∃ t : Tri, t = ⟨ts[ja], ts[jb], ts[jc]⟩ := ⟨_, rfl⟩
      have hsm : SmallTri t := by rw [ht]; exact ⟨(HF.out _ (List.getElem_mem hla)).2.1, (HF.out _ (List.getElem_mem hlb)).2.1, (HF.out _ (List.getElem_mem hlc)).2.1⟩
      have HGT := Lib.hid (fun w1 => rgood3_any HG.out t hsm w1)
      rw [← ht] at HTT
      rw [show ts[ja] = t.s by rw [ht]] at r0 r1 r2 r3
      rw [show ts[jb] = t.p by rw [ht]] at r4 r5 r6 r7
      rw [show ts[jc] = t.o by rw [ht]] at r8 r9 r10 r11
      obtain ⟨x0, x1, x2, x3⟩ := cells2 HX.out
      obtain ⟨k0, k1, k2, k3⟩ := cells3 HK.out
      have b1 : (0 : Int) ≤ (ja : Int) := by omega
      have b2 : (ja : Int) < (ts.length : Int) := by omega
      have b3 : (0 : Int) ≤ (jb : Int) := by omega
      have b4 : (jb : Int) < (ts.length : Int) := by omega
      have b5 : (0 : Int) ≤ (jc : Int) := by omega
      have b6 : (jc : Int) < (ts.length : Int) := by omega
      clear ha hb2 hc hv hv2 hv3 ht hsm hg hg0 hb x0 x2 x3 k3 hla hlb hlc
      unfold rtriV at HGT
      have HEQ : Hid (rtriV t = .agg #[.int .i64 (kindV t.s), .string (text0 t.s), .string (text1 t.s), .string (text2 t.s), .int .i64 (kindV t.p), .string (text0 t.p), .string (text1 t.p), .string (text2 t.p), .int .i64 (kindV t.o), .string (text0 t.o), .string (text1 t.o), .string (text2 t.o)]) := Lib.hid rfl
      generalize kindV t.s = kk1 at *
      generalize text0 t.s = ss1 at *
      generalize text1 t.s = tt1 at *
      generalize text2 t.s = ll1 at *
      generalize kindV t.p = kk2 at *
      generalize text0 t.p = ss2 at *
      generalize text1 t.p = tt2 at *
      generalize text2 t.p = ll2 at *
      generalize kindV t.o = kk3 at *
      generalize text0 t.o = ss3 at *
      generalize text1 t.o = tt3 at *
      generalize text2 t.o = ll3 at *
      have HI : Hid (wr.cell? ⟨w.heap.size, 1, none⟩ = some (.slice (some ⟨g, 0, none⟩) ts.length cap) ∧ wr.cell? ⟨w.heap.size + 1, 0, none⟩ = some (.int .i64 ja) ∧ wr.cell? ⟨w.heap.size + 1, 1, none⟩ = some (.int .i64 jb) ∧ wr.cell? ⟨w.heap.size + 1, 2, none⟩ = some (.int .i64 jc) ∧ wr.cell? ⟨g, ja * 4, none⟩ = some (.int .i64 kk1) ∧ wr.cell? ⟨g, ja * 4 + 1, none⟩ = some (.string ss1) ∧ wr.cell? ⟨g, ja * 4 + 2, none⟩ = some (.string tt1) ∧ wr.cell? ⟨g, ja * 4 + 3, none⟩ = some (.string ll1) ∧ wr.cell? ⟨g, jb * 4, none⟩ = some (.int .i64 kk2) ∧ wr.cell? ⟨g, jb * 4 + 1, none⟩ = some (.string ss2) ∧ wr.cell? ⟨g, jb * 4 + 2, none⟩ = some (.string tt2) ∧ wr.cell? ⟨g, jb * 4 + 3, none⟩ = some (.string ll2) ∧ wr.cell? ⟨g, jc * 4, none⟩ = some (.int .i64 kk3) ∧ wr.cell? ⟨g, jc * 4 + 1, none⟩ = some (.string ss3) ∧ wr.cell? ⟨g, jc * 4 + 2, none⟩ = some (.string tt3) ∧ wr.cell? ⟨g, jc * 4 + 3, none⟩ = some (.string ll3)) := Lib.hid ⟨x1, k0, k1, k2, r0, r1, r2, r3, r4, r5, r6, r7, r8, r9, r10, r11⟩
      clear x1 k0 k1 k2 r0 r1 r2 r3 r4 r5 r6 r7 r8 r9 r10 r11
      go_wp2_with fail
      refine wp_region_held_drew (S := (fun w' => w'.cell? ⟨w.heap.size, 1, none⟩ = some (.slice (some ⟨g, 0, none⟩) ts.length cap) ∧ w'.cell? ⟨w.heap.size + 1, 0, none⟩ = some (.int .i64 ja) ∧ w'.cell? ⟨w.heap.size + 1, 1, none⟩ = some (.int .i64 jb) ∧ w'.cell? ⟨w.heap.size + 1, 2, none⟩ = some (.int .i64 jc) ∧ w'.cell? ⟨g, ja * 4, none⟩ = some (.int .i64 kk1) ∧ w'.cell? ⟨g, ja * 4 + 1, none⟩ = some (.string ss1) ∧ w'.cell? ⟨g, ja * 4 + 2, none⟩ = some (.string tt1) ∧ w'.cell? ⟨g, ja * 4 + 3, none⟩ = some (.string ll1) ∧ w'.cell? ⟨g, jb * 4, none⟩ = some (.int .i64 kk2) ∧ w'.cell? ⟨g, jb * 4 + 1, none⟩ = some (.string ss2) ∧ w'.cell? ⟨g, jb * 4 + 2, none⟩ = some (.string tt2) ∧ w'.cell? ⟨g, jb * 4 + 3, none⟩ = some (.string ll2) ∧ w'.cell? ⟨g, jc * 4, none⟩ = some (.int .i64 kk3) ∧ w'.cell? ⟨g, jc * 4 + 1, none⟩ = some (.string ss3) ∧ w'.cell? ⟨g, jc * 4 + 2, none⟩ = some (.string tt3) ∧ w'.cell? ⟨g, jc * 4 + 3, none⟩ = some (.string ll3))) (by kernel_rfl) ?hStrip0 (fun hHeld => ?_)
      case hStrip0 => exact HI.out
      refine wpAnyH_take (i := 0) (oi := ⟨some 26, _, _, _, _, _⟩) (v := ?vtrip0) rfl (by kernel_rfl) (by kernel_rfl) (by kernel_rfl) (fun _ _ _ h => h) (Or.inl ⟨by kernel_rfl, ?ytrip0⟩) (by assumption) ?rtrip0
      case ytrip0 =>
        intro w hSw
        try dsimp only at hSw
        obtain ⟨x1, k0, k1, k2, r0, r1, r2, r3, r4, r5, r6, r7, r8, r9, r10, r11⟩ := hSw
        first | (go_simp; done) | (go_simp; with_reducible rfl)
      try simp only [Act.put, List.setIfInBounds_toArray, List.set_cons_zero, List.set_cons_succ]
      refine wpAnyH_take (i := 1) (oi := ⟨some 27, _, _, _, _, _⟩) (v := ?vtrip1) rfl (by kernel_rfl) (by kernel_rfl) (by kernel_rfl) (fun _ _ _ h => h) (Or.inl ⟨by kernel_rfl, ?ytrip1⟩) (by assumption) ?rtrip1
      case ytrip1 =>
        intro w hSw
        try dsimp only at hSw
        obtain ⟨x1, k0, k1, k2, r0, r1, r2, r3, r4, r5, r6, r7, r8, r9, r10, r11⟩ := hSw
        first | (go_simp; done) | (go_simp; with_reducible rfl)
      try simp only [Act.put, List.setIfInBounds_toArray, List.set_cons_zero, List.set_cons_succ]
      refine wpAnyH_take (i := 2) (oi := ⟨some 28, _, _, _, _, _⟩) (v := ?vtrip2) rfl (by kernel_rfl) (by kernel_rfl) (by kernel_rfl) (fun _ _ _ h => h) (Or.inl ⟨by kernel_rfl, ?ytrip2⟩) (by assumption) ?rtrip2
      case ytrip2 =>
        intro w hSw
        try dsimp only at hSw
        obtain ⟨x1, k0, k1, k2, r0, r1, r2, r3, r4, r5, r6, r7, r8, r9, r10, r11⟩ := hSw
        first | (go_simp; done) | (go_simp; with_reducible rfl)
      try simp only [Act.put, List.setIfInBounds_toArray, List.set_cons_zero, List.set_cons_succ]
      refine wpAnyH_take (i := 3) (oi := ⟨some 29, _, _, _, _, _⟩) (v := ?vtrip3) rfl (by kernel_rfl) (by kernel_rfl) (by kernel_rfl) (fun _ _ _ h => h) (Or.inl ⟨by kernel_rfl, ?ytrip3⟩) (by assumption) ?rtrip3
      case ytrip3 =>
        intro w hSw
        try dsimp only at hSw
        obtain ⟨x1, k0, k1, k2, r0, r1, r2, r3, r4, r5, r6, r7, r8, r9, r10, r11⟩ := hSw
        first | (go_simp; done) | (go_simp; with_reducible rfl)
      try simp only [Act.put, List.setIfInBounds_toArray, List.set_cons_zero, List.set_cons_succ]
      refine wpAnyH_take (i := 4) (oi := ⟨some 30, _, _, _, _, _⟩) (v := ?vtrip4) rfl (by kernel_rfl) (by kernel_rfl) (by kernel_rfl) (fun _ _ _ h => h) (Or.inl ⟨by kernel_rfl, ?ytrip4⟩) (by assumption) ?rtrip4
      case ytrip4 =>
        intro w hSw
        try dsimp only at hSw
        obtain ⟨x1, k0, k1, k2, r0, r1, r2, r3, r4, r5, r6, r7, r8, r9, r10, r11⟩ := hSw
        first | (go_simp; done) | (go_simp; with_reducible rfl)
      try simp only [Act.put, List.setIfInBounds_toArray, List.set_cons_zero, List.set_cons_succ]
      refine wpAnyH_take (i := 5) (oi := ⟨some 31, _, _, _, _, _⟩) (v := ?vtrip5) rfl (by kernel_rfl) (by kernel_rfl) (by kernel_rfl) (fun _ _ _ h => h) (Or.inl ⟨by kernel_rfl, ?ytrip5⟩) (by assumption) ?rtrip5
      case ytrip5 =>
        intro w hSw
        try dsimp only at hSw
        obtain ⟨x1, k0, k1, k2, r0, r1, r2, r3, r4, r5, r6, r7, r8, r9, r10, r11⟩ := hSw
        first | (go_simp; done) | (go_simp; with_reducible rfl)
      try simp only [Act.put, List.setIfInBounds_toArray, List.set_cons_zero, List.set_cons_succ]
      refine wpAnyH_take (i := 6) (oi := ⟨some 32, _, _, _, _, _⟩) (v := ?vtrip6) rfl (by kernel_rfl) (by kernel_rfl) (by kernel_rfl) (fun _ _ _ h => h) (Or.inl ⟨by kernel_rfl, ?ytrip6⟩) (by assumption) ?rtrip6
      case ytrip6 =>
        intro w hSw
        try dsimp only at hSw
        obtain ⟨x1, k0, k1, k2, r0, r1, r2, r3, r4, r5, r6, r7, r8, r9, r10, r11⟩ := hSw
        first | (go_simp; done) | (go_simp; with_reducible rfl)
      try simp only [Act.put, List.setIfInBounds_toArray, List.set_cons_zero, List.set_cons_succ]
      refine wpAnyH_take (i := 7) (oi := ⟨some 33, _, _, _, _, _⟩) (v := ?vtrip7) rfl (by kernel_rfl) (by kernel_rfl) (by kernel_rfl) (fun _ _ _ h => h) (Or.inl ⟨by kernel_rfl, ?ytrip7⟩) (by assumption) ?rtrip7
      case ytrip7 =>
        intro w hSw
        try dsimp only at hSw
        obtain ⟨x1, k0, k1, k2, r0, r1, r2, r3, r4, r5, r6, r7, r8, r9, r10, r11⟩ := hSw
        first | (go_simp; done) | (go_simp; with_reducible rfl)
      try simp only [Act.put, List.setIfInBounds_toArray, List.set_cons_zero, List.set_cons_succ]
      refine wpAnyH_take (i := 8) (oi := ⟨some 34, _, _, _, _, _⟩) (v := ?vtrip8) rfl (by kernel_rfl) (by kernel_rfl) (by kernel_rfl) (fun _ _ _ h => h) (Or.inl ⟨by kernel_rfl, ?ytrip8⟩) (by assumption) ?rtrip8
      case ytrip8 =>
        intro w hSw
        try dsimp only at hSw
        obtain ⟨x1, k0, k1, k2, r0, r1, r2, r3, r4, r5, r6, r7, r8, r9, r10, r11⟩ := hSw
        first | (go_simp; done) | (go_simp; with_reducible rfl)
      try simp only [Act.put, List.setIfInBounds_toArray, List.set_cons_zero, List.set_cons_succ]
      refine wpAnyH_take (i := 9) (oi := ⟨some 35, _, _, _, _, _⟩) (v := ?vtrip9) rfl (by kernel_rfl) (by kernel_rfl) (by kernel_rfl) (fun _ _ _ h => h) (Or.inl ⟨by kernel_rfl, ?ytrip9⟩) (by assumption) ?rtrip9
      case ytrip9 =>
        intro w hSw
        try dsimp only at hSw
        obtain ⟨x1, k0, k1, k2, r0, r1, r2, r3, r4, r5, r6, r7, r8, r9, r10, r11⟩ := hSw
        first | (go_simp; done) | (go_simp; with_reducible rfl)
      try simp only [Act.put, List.setIfInBounds_toArray, List.set_cons_zero, List.set_cons_succ]
      refine wpAnyH_take (i := 10) (oi := ⟨some 36, _, _, _, _, _⟩) (v := ?vtrip10) rfl (by kernel_rfl) (by kernel_rfl) (by kernel_rfl) (fun _ _ _ h => h) (Or.inl ⟨by kernel_rfl, ?ytrip10⟩) (by assumption) ?rtrip10
      case ytrip10 =>
        intro w hSw
        try dsimp only at hSw
        obtain ⟨x1, k0, k1, k2, r0, r1, r2, r3, r4, r5, r6, r7, r8, r9, r10, r11⟩ := hSw
        first | (go_simp; done) | (go_simp; with_reducible rfl)
      try simp only [Act.put, List.setIfInBounds_toArray, List.set_cons_zero, List.set_cons_succ]
      refine wpAnyH_take (i := 11) (oi := ⟨some 37, _, _, _, _, _⟩) (v := ?vtrip11) rfl (by kernel_rfl) (by kernel_rfl) (by kernel_rfl) (fun _ _ _ h => h) (Or.inl ⟨by kernel_rfl, ?ytrip11⟩) (by assumption) ?rtrip11
      case ytrip11 =>
        intro w hSw
        try dsimp only at hSw
        obtain ⟨x1, k0, k1, k2, r0, r1, r2, r3, r4, r5, r6, r7, r8, r9, r10, r11⟩ := hSw
        first | (go_simp; done) | (go_simp; with_reducible rfl)
      try simp only [Act.put, List.setIfInBounds_toArray, List.set_cons_zero, List.set_cons_succ]
      refine wpAnyH_take (i := 12) (oi := ⟨some 38, _, _, _, _, _⟩) (v := ?vtrip12) rfl (by kernel_rfl) (by kernel_rfl) (by kernel_rfl) (fun _ _ _ h => h) (Or.inl ⟨by kernel_rfl, ?ytrip12⟩) (by assumption) ?rtrip12
      case ytrip12 =>
        intro w hSw
        try dsimp only at hSw
        obtain ⟨x1, k0, k1, k2, r0, r1, r2, r3, r4, r5, r6, r7, r8, r9, r10, r11⟩ := hSw
        first | (go_simp; done) | (go_simp; with_reducible rfl)
      try simp only [Act.put, List.setIfInBounds_toArray, List.set_cons_zero, List.set_cons_succ]
      refine wpAnyH_take (i := 13) (oi := ⟨some 39, _, _, _, _, _⟩) (v := ?vtrip13) rfl (by kernel_rfl) (by kernel_rfl) (by kernel_rfl) (fun _ _ _ h => h) (Or.inl ⟨by kernel_rfl, ?ytrip13⟩) (by assumption) ?rtrip13
      case ytrip13 =>
        intro w hSw
        try dsimp only at hSw
        obtain ⟨x1, k0, k1, k2, r0, r1, r2, r3, r4, r5, r6, r7, r8, r9, r10, r11⟩ := hSw
        first | (go_simp; done) | (go_simp; with_reducible rfl)
      try simp only [Act.put, List.setIfInBounds_toArray, List.set_cons_zero, List.set_cons_succ]
      refine wpAnyH_take (i := 14) (oi := ⟨some 40, _, _, _, _, _⟩) (v := ?vtrip14) rfl (by kernel_rfl) (by kernel_rfl) (by kernel_rfl) (fun _ _ _ h => h) (Or.inl ⟨by kernel_rfl, ?ytrip14⟩) (by assumption) ?rtrip14
      case ytrip14 =>
        intro w hSw
        try dsimp only at hSw
        obtain ⟨x1, k0, k1, k2, r0, r1, r2, r3, r4, r5, r6, r7, r8, r9, r10, r11⟩ := hSw
        first | (go_simp; done) | (go_simp; with_reducible rfl)
      try simp only [Act.put, List.setIfInBounds_toArray, List.set_cons_zero, List.set_cons_succ]
      refine wpAnyH_take (i := 15) (oi := ⟨some 41, _, _, _, _, _⟩) (v := ?vtrip15) rfl (by kernel_rfl) (by kernel_rfl) (by kernel_rfl) (fun _ _ _ h => h) (Or.inl ⟨by kernel_rfl, ?ytrip15⟩) (by assumption) ?rtrip15
      case ytrip15 =>
        intro w hSw
        try dsimp only at hSw
        obtain ⟨x1, k0, k1, k2, r0, r1, r2, r3, r4, r5, r6, r7, r8, r9, r10, r11⟩ := hSw
        first | (go_simp; done) | (go_simp; with_reducible rfl)
      try simp only [Act.put, List.setIfInBounds_toArray, List.set_cons_zero, List.set_cons_succ]
      refine wpAnyH_take (i := 16) (oi := ⟨some 42, _, _, _, _, _⟩) (v := ?vtrip16) rfl (by kernel_rfl) (by kernel_rfl) (by kernel_rfl) (fun _ _ _ h => h) (Or.inl ⟨by kernel_rfl, ?ytrip16⟩) (by assumption) ?rtrip16
      case ytrip16 =>
        intro w hSw
        try dsimp only at hSw
        obtain ⟨x1, k0, k1, k2, r0, r1, r2, r3, r4, r5, r6, r7, r8, r9, r10, r11⟩ := hSw
        first | (go_simp; done) | (go_simp; with_reducible rfl)
      try simp only [Act.put, List.setIfInBounds_toArray, List.set_cons_zero, List.set_cons_succ]
      refine wpAnyH_take (i := 17) (oi := ⟨some 43, _, _, _, _, _⟩) (v := ?vtrip17) rfl (by kernel_rfl) (by kernel_rfl) (by kernel_rfl) (fun _ _ _ h => h) (Or.inl ⟨by kernel_rfl, ?ytrip17⟩) (by assumption) ?rtrip17
      case ytrip17 =>
        intro w hSw
        try dsimp only at hSw
        obtain ⟨x1, k0, k1, k2, r0, r1, r2, r3, r4, r5, r6, r7, r8, r9, r10, r11⟩ := hSw
        first | (go_simp; done) | (go_simp; with_reducible rfl)
      try simp only [Act.put, List.setIfInBounds_toArray, List.set_cons_zero, List.set_cons_succ]
      refine wpAnyH_take (i := 18) (oi := ⟨some 44, _, _, _, _, _⟩) (v := ?vtrip18) rfl (by kernel_rfl) (by kernel_rfl) (by kernel_rfl) (fun _ _ _ h => h) (Or.inl ⟨by kernel_rfl, ?ytrip18⟩) (by assumption) ?rtrip18
      case ytrip18 =>
        intro w hSw
        try dsimp only at hSw
        obtain ⟨x1, k0, k1, k2, r0, r1, r2, r3, r4, r5, r6, r7, r8, r9, r10, r11⟩ := hSw
        first | (go_simp; done) | (go_simp; with_reducible rfl)
      try simp only [Act.put, List.setIfInBounds_toArray, List.set_cons_zero, List.set_cons_succ]
      refine wpAnyH_ready (rs := [19]) (by kernel_rfl) (by simp) ?_
      refine AllReadyH.cons (i := 19) (o := ⟨some 7, _, _, _, _, _⟩) rfl (fun K hK => ?_) AllReadyH.nil
      go_simp
      refine hK.out _ _ ?_ (fun hHeld => ?_)
      · exact kept16 (by assumption) ((Below.refl _ _).alloc (Nat.le_refl _) _)
      clear hK K
      try simp only [Act.put, List.setIfInBounds_toArray, List.set_cons_zero, List.set_cons_succ]
      refine wpAnyH_ready (rs := [20]) (by kernel_rfl) (by simp) ?_
      refine AllReadyH.cons (i := 20) (o := ⟨none, _, _, _, _, _⟩) rfl (fun K hK => ?_) AllReadyH.nil
      go_simp
      refine hK.out _ _ ?_ (fun hHeld => ?_)
      · exact kept16 (w1 := wr) HI.out ((Below.refl _ wr).alloc (Nat.le_refl _) _).drew
      clear hK K
      try simp only [Act.put, List.setIfInBounds_toArray, List.set_cons_zero, List.set_cons_succ]
      refine wpAnyH_done (by kernel_rfl) ?_ _
      obtain ⟨W5, hW5⟩ : ∃ W5, W5 = (wr.alloc (.cells #[.int .i64 kk1, .string ss1, .string tt1, .string ll1, .int .i64 kk2, .string ss2, .string tt2, .string ll2, .int .i64 kk3, .string ss3, .string tt3, .string ll3] 51)).drew := ⟨_, rfl⟩
      have hb5 : Below wr.heap.size wr W5 := by rw [hW5]; exact ((Below.refl _ wr).alloc (Nat.le_refl _) _).drew
      have hx5 : W5.heap[wr.heap.size]? = some (.cells #[.int .i64 kk1, .string ss1, .string tt1, .string ll1, .int .i64 kk2, .string ss2, .string tt2, .string ll2, .int .i64 kk3, .string ss3, .string tt3, .string ll3] 51 (0, 0)) := by rw [hW5]; exact box_new wr _ _
      rw [← hW5]
      have HX5 := Lib.hid hx5
      have HZ5 := Lib.hid (box_below HZ.out hb5)
      have HB5 := Lib.hid (HB.out.trans (hb5.mono HB.out.size))
      clear hW5 hb5
      obtain ⟨z0, z1, z2, z3, z4, z5, z6, z7, z8, z9, z10, z11⟩ := cells12 hx5
      clear hx5
      cases hgd : goodTri G t with
      | true =>
        rw [hgd] at HGT
        rw [if_pos hgd] at HTT
        clear hgd
        go_wp2_with fail
        refine (HGT.out _).mono ?_
        rintro e w10 ⟨rfl, hb10⟩
        have HX := Lib.hid (box_below HX5.out hb10)
        have HZ := Lib.hid (box_below HZ5.out hb10)
        have HB := Lib.hid (HB5.out.trans (hb10.mono HB5.out.size))
        clear hb10 z0 z1 z2 z3 z4 z5 z6 z7 z8 z9 z10 z11
        obtain ⟨z0, z1, z2, z3, z4, z5, z6, z7, z8, z9, z10, z11⟩ := cells12 HX.out
        obtain ⟨x0, x1, x2, x3, x4, x5, x6, x7, x8, x9, x10, x11⟩ := cells12 HZ.out
        obtain ⟨f0, f1, f2, f3, f4, f5, f6, f7, f8, f9, f10, f11⟩ := froz12 HZ.out
        go_wp2_with fail
        have hs0 := set12 HZ.out (.int .i64 kk1) (.string ss1) (.string tt1) (.string ll1) (.int .i64 kk2) (.string ss2) (.string tt2) (.string ll2) (.int .i64 kk3) (.string ss3) (.string tt3) (.string ll3)
        have hbel := (below12 (b := w.heap.size + 1 + 1) HB.out (by omega) (.int .i64 kk1) (.string ss1) (.string tt1) (.string ll1) (.int .i64 kk2) (.string ss2) (.string tt2) (.string ll2) (.int .i64 kk3) (.string ss3) (.string tt3) (.string ll3))
        obtain ⟨W9, hW9⟩ : ∃ W9, W9 = ((((((((((((w10.setCell ⟨w.heap.size + 1 + 1, 0, none⟩ (.int .i64 kk1)).setCell ⟨w.heap.size + 1 + 1, 1, none⟩ (.string ss1)).setCell ⟨w.heap.size + 1 + 1, 2, none⟩ (.string tt1)).setCell ⟨w.heap.size + 1 + 1, 3, none⟩ (.string ll1)).setCell ⟨w.heap.size + 1 + 1, 4, none⟩ (.int .i64 kk2)).setCell ⟨w.heap.size + 1 + 1, 5, none⟩ (.string ss2)).setCell ⟨w.heap.size + 1 + 1, 6, none⟩ (.string tt2)).setCell ⟨w.heap.size + 1 + 1, 7, none⟩ (.string ll2)).setCell ⟨w.heap.size + 1 + 1, 8, none⟩ (.int .i64 kk3)).setCell ⟨w.heap.size + 1 + 1, 9, none⟩ (.string ss3)).setCell ⟨w.heap.size + 1 + 1, 10, none⟩ (.string tt3)).setCell ⟨w.heap.size + 1 + 1, 11, none⟩ (.string ll3)) := ⟨_, rfl⟩
        have hs : W9.heap[w.heap.size + 1 + 1]? = some (.cells #[.int .i64 kk1, .string ss1, .string tt1, .string ll1, .int .i64 kk2, .string ss2, .string tt2, .string ll2, .int .i64 kk3, .string ss3, .string tt3, .string ll3] 51 (0, 0)) := by rw [hW9]; exact hs0
        rw [← hW9] at hbel ⊢
        obtain ⟨e0, e1, e2, e3, e4, e5, e6, e7, e8, e9, e10, e11⟩ := cells12 hs
        refine bodyPost_ret (v := .tuple #[.agg #[.int .i64 kk1, .string ss1, .string tt1, .string ll1, .int .i64 kk2, .string ss2, .string tt2, .string ll2, .int .i64 kk3, .string ss3, .string tt3, .string ll3], .int .i64 0]) (by simp [results, Try.results29, go_sem, e0, e1, e2, e3, e4, e5, e6, e7, e8, e9, e10, e11]) rfl ?_
        exact ⟨by rw [HTT.out]; exact congrArg (fun v => Ending.returned (.tuple #[v, .int .i64 0])) HEQ.out.symm, hbel⟩
      | false =>
        rw [hgd] at HGT
        rw [if_neg (by simp [hgd])] at HTT
        clear hgd
        go_wp2_with fail
        refine (HGT.out _).mono ?_
        rintro e w10 ⟨rfl, hb10⟩
        have HZ := Lib.hid (box_below HZ5.out hb10)
        have HB := Lib.hid (HB5.out.trans (hb10.mono HB5.out.size))
        clear hb10 z0 z1 z2 z3 z4 z5 z6 z7 z8 z9 z10 z11
        obtain ⟨y0, y1, y2, y3, y4, y5, y6, y7, y8, y9, y10, y11⟩ := cells12 HZ.out
        obtain ⟨f0, f1, f2, f3, f4, f5, f6, f7, f8, f9, f10, f11⟩ := froz12 HZ.out
        go_wp2_with fail
        have hs0 := set12 HZ.out (.int .i64 0) (.string ⟨#[]⟩) (.string ⟨#[]⟩) (.string ⟨#[]⟩) (.int .i64 0) (.string ⟨#[]⟩) (.string ⟨#[]⟩) (.string ⟨#[]⟩) (.int .i64 0) (.string ⟨#[]⟩) (.string ⟨#[]⟩) (.string ⟨#[]⟩)
        have hbel := (below12 (b := w.heap.size + 1 + 1) HB.out (by omega) (.int .i64 0) (.string ⟨#[]⟩) (.string ⟨#[]⟩) (.string ⟨#[]⟩) (.int .i64 0) (.string ⟨#[]⟩) (.string ⟨#[]⟩) (.string ⟨#[]⟩) (.int .i64 0) (.string ⟨#[]⟩) (.string ⟨#[]⟩) (.string ⟨#[]⟩))
        obtain ⟨W9, hW9⟩ : ∃ W9, W9 = ((((((((((((w10.setCell ⟨w.heap.size + 1 + 1, 0, none⟩ (.int .i64 0)).setCell ⟨w.heap.size + 1 + 1, 1, none⟩ (.string ⟨#[]⟩)).setCell ⟨w.heap.size + 1 + 1, 2, none⟩ (.string ⟨#[]⟩)).setCell ⟨w.heap.size + 1 + 1, 3, none⟩ (.string ⟨#[]⟩)).setCell ⟨w.heap.size + 1 + 1, 4, none⟩ (.int .i64 0)).setCell ⟨w.heap.size + 1 + 1, 5, none⟩ (.string ⟨#[]⟩)).setCell ⟨w.heap.size + 1 + 1, 6, none⟩ (.string ⟨#[]⟩)).setCell ⟨w.heap.size + 1 + 1, 7, none⟩ (.string ⟨#[]⟩)).setCell ⟨w.heap.size + 1 + 1, 8, none⟩ (.int .i64 0)).setCell ⟨w.heap.size + 1 + 1, 9, none⟩ (.string ⟨#[]⟩)).setCell ⟨w.heap.size + 1 + 1, 10, none⟩ (.string ⟨#[]⟩)).setCell ⟨w.heap.size + 1 + 1, 11, none⟩ (.string ⟨#[]⟩)) := ⟨_, rfl⟩
        have hs : W9.heap[w.heap.size + 1 + 1]? = some (.cells #[.int .i64 0, .string ⟨#[]⟩, .string ⟨#[]⟩, .string ⟨#[]⟩, .int .i64 0, .string ⟨#[]⟩, .string ⟨#[]⟩, .string ⟨#[]⟩, .int .i64 0, .string ⟨#[]⟩, .string ⟨#[]⟩, .string ⟨#[]⟩] 51 (0, 0)) := by rw [hW9]; exact hs0
        rw [← hW9] at hbel ⊢
        obtain ⟨e0, e1, e2, e3, e4, e5, e6, e7, e8, e9, e10, e11⟩ := cells12 hs
        refine bodyPost_ret (v := .tuple #[.agg #[.int .i64 0, .string ⟨#[]⟩, .string ⟨#[]⟩, .string ⟨#[]⟩, .int .i64 0, .string ⟨#[]⟩, .string ⟨#[]⟩, .string ⟨#[]⟩, .int .i64 0, .string ⟨#[]⟩, .string ⟨#[]⟩, .string ⟨#[]⟩], .int .i64 3]) (by simp [results, Try.results29, go_sem, e0, e1, e2, e3, e4, e5, e6, e7, e8, e9, e10, e11]) rfl ?_
        exact ⟨by rw [HTT.out]; rfl, hbel⟩
end Go.Proofs.Ytghimladdioajaa
namespace Go.Proofs.Ytghimladdioajaa
open Go Go.RowKit
set_option linter.unusedVariables false
set_option linter.unusedSimpArgs false
set_option maxRecDepth 100000
/-- the find of a dictionary, good or not -/
def findP (G : Tm → Bool) (x : Tm) (ts : List Tm) : Int × Int := if G x then (match idxT x ts with | some j => ((j : Int), 0) | none => (0, 4)) else (0, 4)
theorem find_any {G : Tm → Bool} (hG : GoodFn G) {base p m : Nat} {ts : List Tm} {room : Int} {w : World} (x : Tm) (hx : KeyT x) (hz : Small x) (hm : MaxV w) (h : DcAt base p m ts room w) :
    Calls Try.prog 23 #[.pointer (some ⟨p, 0, none⟩), tmV x] w fun e w' => e = .returned (.tuple #[.int .i64 (findP G x ts).1, .int .i64 (findP G x ts).2]) ∧ Below w.heap.size w w' := by
  have hg := (hG x hz).1 w hm
  unfold findP
  cases hgx : G x with
  | false =>
    rw [hgx] at hg
    simp only [Bool.false_eq_true, if_false]
    exact find_bad x h hg
  | true =>
    rw [hgx] at hg
    simp only [if_true]
    have := find_good x hx h hg
    unfold findV at this
    cases hi : idxT x ts with
    | some j => rw [hi] at this; exact this
    | none => rw [hi] at this; exact this
/-- what the document's find says of it -/
theorem rfind_cases (G : Tm → Bool) (x : Tm) (ts : List Tm) : (∃ j : Nat, rfindN G x ts = (j : Int) ∧ findP G x ts = ((j : Int), 0)) ∨ (rfindN G x ts = -1 ∧ findP G x ts = (0, 4)) := by
  unfold rfindN findP
  cases hgx : G x with
  | false => rw [scanAt_bad hgx]; simp
  | true =>
    rw [scanAt_good hgx]
    cases hi : idxT x ts with
    | some j => left; exact ⟨j, by simp, by simp⟩
    | none => right; exact ⟨by simp, by simp⟩
theorem trip_cases {G : Tm → Bool} {ts : List Tm} (hf : Fine G ts) (a b c : Int) : (∃ t : Tri, tripT G ts a b c = (t, 0) ∧ KeyTri t) ∨ (∃ z : Int, (z = 3 ∨ z = 4) ∧ tripT G ts a b c = (⟨.none, .none, .none⟩, z)) := by
  unfold tripT
  split
  · rename_i h
    unfold hasN at h
    simp only [Bool.and_eq_true, decide_eq_true_eq] at h
    have g : ∀ n : Int, 0 ≤ n ∧ n < ts.length → KeyT (ts.getD n.toNat .none) := fun n hn => by
      have hl : n.toNat < ts.length := by omega
      rw [List.getD_eq_getElem?_getD, List.getElem?_eq_getElem hl, Option.getD_some]
      exact (hf _ (List.getElem_mem hl)).1
    split
    · left
      exact ⟨_, rfl, g a h.1.1, g b h.1.2, g c h.2⟩
    · right
      exact ⟨3, .inl rfl, rfl⟩
  · right
    exact ⟨4, .inr rfl, rfl⟩
/-- the first piece of a code that is of a kind -/
def findC (p : Code → Bool) : Code → Option Code
  | .seq a b => if p (.seq a b) then some (.seq a b) else match findC p a with
    | some c => some c
    | none => findC p b
  | .cond t a b => if p (.cond t a b) then some (.cond t a b) else match findC p a with
    | some c => some c
    | none => findC p b
  | .block n b => if p (.block n b) then some (.block n b) else findC p b
  | .loop b => if p (.loop b) then some (.loop b) else findC p b
  | .scope b => if p (.scope b) then some (.scope b) else findC p b
  | c => if p c then some c else none
def isReg (n : Nat) : Code → Bool
  | .region i _ _ => Nat.beq i n
  | _ => false
def isBlk (n : Nat) : Code → Bool
  | .block i _ => Nat.beq i n
  | _ => false
end Go.Proofs.Ytghimladdioajaa
namespace Go.Proofs.Ytghimladdioajaa
open Go Go.RowKit
set_option linter.unusedVariables false
set_option linter.unusedSimpArgs false
set_option maxRecDepth 100000
set_option maxHeartbeats 12800000 in
theorem plays_long (room : Int) (a : Option Addr) (rs : List RawA) (cap : Nat) (w : World) (hm : MaxV w) (hlen : (40 : Int) < rs.length) : Calls Try.prog 6 #[.int .i64 room, .slice a rs.length cap] w fun e w' => e = .returned (.bool true) ∧ Below w.heap.size w w' := by
  have HA := Lib.hid (awake5_any w hm)
  have HA2 := Lib.hid (fun w1 (hb : Below w.heap.size w w1) => awake5_any w1 (hm.below hb))
  clear hm
  go_enter Try.func6, Try.ntmps6
  go_wp2_with fail
  refine HA.out.mono ?_
  rintro e w1 ⟨rfl, hb1⟩
  go_wp2_with fail
  refine (HA2.out _ hb1).mono ?_
  rintro e w2 ⟨rfl, hb2⟩
  go_wp2_with fail
  go_ret
  exact ⟨rfl, hb1.trans (hb2.mono hb1.size)⟩
set_option maxHeartbeats 12800000 in
theorem plays_room (room : Int) (a : Option Addr) (rs : List RawA) (cap : Nat) (w : World) (hm : MaxV w) (hlen : ¬ (40 : Int) < rs.length) (hroom : room < 1 ∨ 65536 < room) : Calls Try.prog 6 #[.int .i64 room, .slice a rs.length cap] w fun e w' => e = .returned (.bool true) ∧ Below w.heap.size w w' := by
  have HA := Lib.hid (awake5_any w hm)
  have t0 : decide ((40 : Int) < rs.length) = false := decide_eq_false hlen
  clear hm hlen
  have HNO := Lib.hid (fun w1 => new_no room w1 hroom)
  have q1 : (decide (room < 1) || decide (65536 < room)) = true := by simpa using hroom
  clear hroom
  go_enter Try.func6, Try.ntmps6
  go_wp2_with fail
  refine HA.out.mono ?_
  rintro e w1 ⟨rfl, hb1⟩
  go_wp2_with fail
  refine (HNO.out _).mono ?_
  rintro e w2 ⟨rfl, rfl⟩
  by_cases hr1 : room < 1
  · have q2 : decide (room < 1) = true := decide_eq_true hr1
    go_wp2_with fail
    go_ret
    exact ⟨rfl, hb1⟩
  · have q2 : decide (room < 1) = false := decide_eq_false hr1
    have q3 : decide (65536 < room) = true := by rw [q2] at q1; simpa using q1
    go_wp2_with fail
    go_ret
    exact ⟨rfl, hb1⟩
end Go.Proofs.Ytghimladdioajaa
namespace Go.Proofs.Ytghimladdioajaa
open Go Go.RowKit
set_option linter.unusedVariables false
set_option linter.unusedSimpArgs false
set_option maxRecDepth 100000
set_option maxHeartbeats 12800000 in
theorem plays_r12 {W1 wr : World} {kd nn k1 : Int} {s1 t1 l1 : ByteArray} {k2 : Int} {s2 t2 l2 : ByteArray} {k3 : Int} {s3 t3 l3 : ByteArray} {ka kb kc : Int} (HX1 : Hid (W1.heap[wr.heap.size]? = some (.cells #[.int .u8 kd, .int .i64 nn, .int .i64 k1, .string s1, .string t1, .string l1, .int .i64 k2, .string s2, .string t2, .string l2, .int .i64 k3, .string s3, .string t3, .string l3, .int .i64 ka, .int .i64 kb, .int .i64 kc] 67 (0, 0)))) {b1 b2 b3 : Bool} (HSH1 : Hid (∀ w : World, Calls Try.prog 10 #[.agg #[.int .i64 k1, .string s1, .string t1, .string l1]] w fun e w' => e = .returned (.bool b1) ∧ Below w.heap.size w w')) (HSH2 : Hid (∀ w : World, Calls Try.prog 10 #[.agg #[.int .i64 k2, .string s2, .string t2, .string l2]] w fun e w' => e = .returned (.bool b2) ∧ Below w.heap.size w w')) (HSH3 : Hid (∀ w : World, Calls Try.prog 10 #[.agg #[.int .i64 k3, .string s3, .string t3, .string l3]] w fun e w' => e = .returned (.bool b3) ∧ Below w.heap.size w w'))
    {sl0 sl1 sl2 sl3 sl4 sl5 sl6 sl7 sl8 sl10 sl11 sl12 sl13 sl14 sl15 sl16 sl17 sl18 sl19 sl20 sl21 sl22 sl23 sl24 sl25 sl26 sl27 sl28 sl29 sl30 sl31 sl32 sl33 sl34 sl35 sl36 sl37 sl38 sl39 sl40 sl41 sl42 sl43 sl44 sl45 sl46 sl47 sl48 sl49 sl50 sl51 sl52 sl53 sl54 sl55 sl56 sl57 sl58 sl59 sl60 sl61 sl62 sl63 sl64 sl65 sl66 sl67 sl68 sl69 sl70 sl71 sl72 sl73 sl74 sl75 sl76 sl77 sl78 sl79 sl80 sl81 sl82 sl83 sl84 sl85 sl86 sl87 sl88 sl89 sl90 sl91 sl92 sl93 sl94 sl95 sl96 sl97 sl98 sl99 sl100 sl101 sl102 sl103 sl104 sl105 sl106 sl107 sl108 sl109 sl110 sl111 sl112 sl113 sl114 sl115 sl116 sl117 sl118 sl119 sl120 sl121 sl122 sl123 sl124 sl125 sl126 sl127 sl128 sl129 sl130 sl131 sl132 sl133 sl134 sl135 sl136 sl137 sl138 sl139 sl140 sl141 sl142 sl143 sl144 sl145 sl146 sl147 sl148 sl149 sl150 sl151 sl152 sl153 sl154 sl155 sl156 sl157 sl158 sl159 sl160 sl161 sl162 sl163 sl164 sl165 sl166 sl167 sl168 sl169 sl170 sl171 sl172 sl173 sl174 sl175 sl176 sl177 sl178 sl179 sl180 sl181 sl182 sl183 sl184 sl185 sl186 sl187 sl188 sl189 sl190 sl191 sl192 sl193 sl194 sl195 sl196 sl197 sl198 sl199 sl200 sl201 sl202 sl203 sl204 sl205 sl206 sl207 sl208 sl209 sl210 sl211 sl212 sl213 sl214 sl215 sl216 sl217 sl218 sl219 sl220 sl221 sl222 sl223 sl224 sl225 sl226 sl227 sl228 sl229 sl230 sl231 sl232 sl233 sl234 sl235 sl236 sl237 sl238 sl239 sl240 sl241 sl242 sl243 sl244 sl245 sl246 sl247 sl248 sl249 sl250 sl251 sl252 sl253 sl254 sl255 sl256 sl257 sl258 sl259 sl260 sl261 sl262 sl263 sl264 sl265 sl266 sl267 sl268 sl269 sl270 sl271 sl272 sl273 sl274 sl275 sl276 sl277 sl278 sl279 sl280 sl281 sl282 sl283 sl284 sl285 sl286 sl287 sl288 sl289 sl290 sl291 sl292 sl293 sl294 sl295 sl296 sl297 sl298 sl299 sl300 sl301 sl302 sl303 sl304 sl305 sl306 sl307 : Value} {K : Act → World → Prop} {Q' : Exit → Act → World → Prop}
    (hK : ∀ (ul73 ul74 ul75 ul76 ul77 ul78 ul79 ul80 ul81 ul82 ul83 ul84 ul85 ul86 ul87 ul88 ul89 ul90 : Value) (W : World), Hid (Below W1.heap.size W1 W) → K ⟨(sl0 :: sl1 :: sl2 :: sl3 :: sl4 :: sl5 :: sl6 :: sl7 :: sl8 :: .pointer (some ⟨wr.heap.size, 0, none⟩) :: sl10 :: sl11 :: sl12 :: sl13 :: sl14 :: sl15 :: sl16 :: sl17 :: sl18 :: sl19 :: sl20 :: sl21 :: sl22 :: sl23 :: sl24 :: sl25 :: sl26 :: sl27 :: sl28 :: sl29 :: sl30 :: sl31 :: sl32 :: sl33 :: sl34 :: sl35 :: sl36 :: sl37 :: sl38 :: sl39 :: sl40 :: sl41 :: sl42 :: sl43 :: sl44 :: sl45 :: sl46 :: sl47 :: sl48 :: sl49 :: sl50 :: sl51 :: sl52 :: sl53 :: sl54 :: sl55 :: sl56 :: sl57 :: sl58 :: sl59 :: sl60 :: sl61 :: sl62 :: sl63 :: sl64 :: sl65 :: sl66 :: sl67 :: sl68 :: sl69 :: sl70 :: sl71 :: sl72 :: ul73 :: ul74 :: ul75 :: ul76 :: ul77 :: ul78 :: ul79 :: ul80 :: ul81 :: ul82 :: ul83 :: ul84 :: ul85 :: ul86 :: ul87 :: ul88 :: ul89 :: ul90 :: .bool (!(b1 && (b2 && b3))) :: sl92 :: sl93 :: sl94 :: sl95 :: sl96 :: sl97 :: sl98 :: sl99 :: sl100 :: sl101 :: sl102 :: sl103 :: sl104 :: sl105 :: sl106 :: sl107 :: sl108 :: sl109 :: sl110 :: sl111 :: sl112 :: sl113 :: sl114 :: sl115 :: sl116 :: sl117 :: sl118 :: sl119 :: sl120 :: sl121 :: sl122 :: sl123 :: sl124 :: sl125 :: sl126 :: sl127 :: sl128 :: sl129 :: sl130 :: sl131 :: sl132 :: sl133 :: sl134 :: sl135 :: sl136 :: sl137 :: sl138 :: sl139 :: sl140 :: sl141 :: sl142 :: sl143 :: sl144 :: sl145 :: sl146 :: sl147 :: sl148 :: sl149 :: sl150 :: sl151 :: sl152 :: sl153 :: sl154 :: sl155 :: sl156 :: sl157 :: sl158 :: sl159 :: sl160 :: sl161 :: sl162 :: sl163 :: sl164 :: sl165 :: sl166 :: sl167 :: sl168 :: sl169 :: sl170 :: sl171 :: sl172 :: sl173 :: sl174 :: sl175 :: sl176 :: sl177 :: sl178 :: sl179 :: sl180 :: sl181 :: sl182 :: sl183 :: sl184 :: sl185 :: sl186 :: sl187 :: sl188 :: sl189 :: sl190 :: sl191 :: sl192 :: sl193 :: sl194 :: sl195 :: sl196 :: sl197 :: sl198 :: sl199 :: sl200 :: sl201 :: sl202 :: sl203 :: sl204 :: sl205 :: sl206 :: sl207 :: sl208 :: sl209 :: sl210 :: sl211 :: sl212 :: sl213 :: sl214 :: sl215 :: sl216 :: sl217 :: sl218 :: sl219 :: sl220 :: sl221 :: sl222 :: sl223 :: sl224 :: sl225 :: sl226 :: sl227 :: sl228 :: sl229 :: sl230 :: sl231 :: sl232 :: sl233 :: sl234 :: sl235 :: sl236 :: sl237 :: sl238 :: sl239 :: sl240 :: sl241 :: sl242 :: sl243 :: sl244 :: sl245 :: sl246 :: sl247 :: sl248 :: sl249 :: sl250 :: sl251 :: sl252 :: sl253 :: sl254 :: sl255 :: sl256 :: sl257 :: sl258 :: sl259 :: sl260 :: sl261 :: sl262 :: sl263 :: sl264 :: sl265 :: sl266 :: sl267 :: sl268 :: sl269 :: sl270 :: sl271 :: sl272 :: sl273 :: sl274 :: sl275 :: sl276 :: sl277 :: sl278 :: sl279 :: sl280 :: sl281 :: sl282 :: sl283 :: sl284 :: sl285 :: sl286 :: sl287 :: sl288 :: sl289 :: sl290 :: sl291 :: sl292 :: sl293 :: sl294 :: sl295 :: sl296 :: sl297 :: sl298 :: sl299 :: sl300 :: sl301 :: sl302 :: sl303 :: sl304 :: sl305 :: sl306 :: sl307 :: []).toArray, []⟩ W) :
    Code.wp Try.prog ((Try.f6.body.bind (findC (isReg 12))).getD .skip) (Exit.then K Q') ⟨(sl0 :: sl1 :: sl2 :: sl3 :: sl4 :: sl5 :: sl6 :: sl7 :: sl8 :: .pointer (some ⟨wr.heap.size, 0, none⟩) :: sl10 :: sl11 :: sl12 :: sl13 :: sl14 :: sl15 :: sl16 :: sl17 :: sl18 :: sl19 :: sl20 :: sl21 :: sl22 :: sl23 :: sl24 :: sl25 :: sl26 :: sl27 :: sl28 :: sl29 :: sl30 :: sl31 :: sl32 :: sl33 :: sl34 :: sl35 :: sl36 :: sl37 :: sl38 :: sl39 :: sl40 :: sl41 :: sl42 :: sl43 :: sl44 :: sl45 :: sl46 :: sl47 :: sl48 :: sl49 :: sl50 :: sl51 :: sl52 :: sl53 :: sl54 :: sl55 :: sl56 :: sl57 :: sl58 :: sl59 :: sl60 :: sl61 :: sl62 :: sl63 :: sl64 :: sl65 :: sl66 :: sl67 :: sl68 :: sl69 :: sl70 :: sl71 :: sl72 :: sl73 :: sl74 :: sl75 :: sl76 :: sl77 :: sl78 :: sl79 :: sl80 :: sl81 :: sl82 :: sl83 :: sl84 :: sl85 :: sl86 :: sl87 :: sl88 :: sl89 :: sl90 :: sl91 :: sl92 :: sl93 :: sl94 :: sl95 :: sl96 :: sl97 :: sl98 :: sl99 :: sl100 :: sl101 :: sl102 :: sl103 :: sl104 :: sl105 :: sl106 :: sl107 :: sl108 :: sl109 :: sl110 :: sl111 :: sl112 :: sl113 :: sl114 :: sl115 :: sl116 :: sl117 :: sl118 :: sl119 :: sl120 :: sl121 :: sl122 :: sl123 :: sl124 :: sl125 :: sl126 :: sl127 :: sl128 :: sl129 :: sl130 :: sl131 :: sl132 :: sl133 :: sl134 :: sl135 :: sl136 :: sl137 :: sl138 :: sl139 :: sl140 :: sl141 :: sl142 :: sl143 :: sl144 :: sl145 :: sl146 :: sl147 :: sl148 :: sl149 :: sl150 :: sl151 :: sl152 :: sl153 :: sl154 :: sl155 :: sl156 :: sl157 :: sl158 :: sl159 :: sl160 :: sl161 :: sl162 :: sl163 :: sl164 :: sl165 :: sl166 :: sl167 :: sl168 :: sl169 :: sl170 :: sl171 :: sl172 :: sl173 :: sl174 :: sl175 :: sl176 :: sl177 :: sl178 :: sl179 :: sl180 :: sl181 :: sl182 :: sl183 :: sl184 :: sl185 :: sl186 :: sl187 :: sl188 :: sl189 :: sl190 :: sl191 :: sl192 :: sl193 :: sl194 :: sl195 :: sl196 :: sl197 :: sl198 :: sl199 :: sl200 :: sl201 :: sl202 :: sl203 :: sl204 :: sl205 :: sl206 :: sl207 :: sl208 :: sl209 :: sl210 :: sl211 :: sl212 :: sl213 :: sl214 :: sl215 :: sl216 :: sl217 :: sl218 :: sl219 :: sl220 :: sl221 :: sl222 :: sl223 :: sl224 :: sl225 :: sl226 :: sl227 :: sl228 :: sl229 :: sl230 :: sl231 :: sl232 :: sl233 :: sl234 :: sl235 :: sl236 :: sl237 :: sl238 :: sl239 :: sl240 :: sl241 :: sl242 :: sl243 :: sl244 :: sl245 :: sl246 :: sl247 :: sl248 :: sl249 :: sl250 :: sl251 :: sl252 :: sl253 :: sl254 :: sl255 :: sl256 :: sl257 :: sl258 :: sl259 :: sl260 :: sl261 :: sl262 :: sl263 :: sl264 :: sl265 :: sl266 :: sl267 :: sl268 :: sl269 :: sl270 :: sl271 :: sl272 :: sl273 :: sl274 :: sl275 :: sl276 :: sl277 :: sl278 :: sl279 :: sl280 :: sl281 :: sl282 :: sl283 :: sl284 :: sl285 :: sl286 :: sl287 :: sl288 :: sl289 :: sl290 :: sl291 :: sl292 :: sl293 :: sl294 :: sl295 :: sl296 :: sl297 :: sl298 :: sl299 :: sl300 :: sl301 :: sl302 :: sl303 :: sl304 :: sl305 :: sl306 :: sl307 :: []).toArray, []⟩ W1 := by
  cases b1 with
  | false =>
    conv => arg 2; whnf
    obtain ⟨c0, c1, c2, c3, c4, c5, c6, c7, c8, c9, c10, c11, c12, c13, c14, c15, c16⟩ := cells17 HX1.out
    go_wp2_with fail
    refine (HSH1.out _).mono ?_
    rintro e w3 ⟨rfl, hb3⟩
    have HB3 := Lib.hid (hb3)
    have HX3 := Lib.hid (box_below HX1.out hb3)
    clear hb3 c0 c1 c2 c3 c4 c5 c6 c7 c8 c9 c10 c11 c12 c13 c14 c15 c16
    obtain ⟨c0, c1, c2, c3, c4, c5, c6, c7, c8, c9, c10, c11, c12, c13, c14, c15, c16⟩ := cells17 HX3.out
    go_wp2_with fail
    exact HB3
  | true =>
  cases b2 with
  | false =>
    conv => arg 2; whnf
    obtain ⟨c0, c1, c2, c3, c4, c5, c6, c7, c8, c9, c10, c11, c12, c13, c14, c15, c16⟩ := cells17 HX1.out
    go_wp2_with fail
    refine (HSH1.out _).mono ?_
    rintro e w3 ⟨rfl, hb3⟩
    have HB3 := Lib.hid (hb3)
    have HX3 := Lib.hid (box_below HX1.out hb3)
    clear hb3 c0 c1 c2 c3 c4 c5 c6 c7 c8 c9 c10 c11 c12 c13 c14 c15 c16
    obtain ⟨c0, c1, c2, c3, c4, c5, c6, c7, c8, c9, c10, c11, c12, c13, c14, c15, c16⟩ := cells17 HX3.out
    go_wp2_with fail
    refine (HSH2.out _).mono ?_
    rintro e w4 ⟨rfl, hb4⟩
    have HB4 := Lib.hid (HB3.out.trans (hb4.mono HB3.out.size))
    have HX4 := Lib.hid (box_below HX3.out hb4)
    clear hb4 c0 c1 c2 c3 c4 c5 c6 c7 c8 c9 c10 c11 c12 c13 c14 c15 c16
    obtain ⟨c0, c1, c2, c3, c4, c5, c6, c7, c8, c9, c10, c11, c12, c13, c14, c15, c16⟩ := cells17 HX4.out
    go_wp2_with fail
    exact HB4
  | true =>
  cases b3 with
  | false =>
    conv => arg 2; whnf
    obtain ⟨c0, c1, c2, c3, c4, c5, c6, c7, c8, c9, c10, c11, c12, c13, c14, c15, c16⟩ := cells17 HX1.out
    go_wp2_with fail
    refine (HSH1.out _).mono ?_
    rintro e w3 ⟨rfl, hb3⟩
    have HB3 := Lib.hid (hb3)
    have HX3 := Lib.hid (box_below HX1.out hb3)
    clear hb3 c0 c1 c2 c3 c4 c5 c6 c7 c8 c9 c10 c11 c12 c13 c14 c15 c16
    obtain ⟨c0, c1, c2, c3, c4, c5, c6, c7, c8, c9, c10, c11, c12, c13, c14, c15, c16⟩ := cells17 HX3.out
    go_wp2_with fail
    refine (HSH2.out _).mono ?_
    rintro e w4 ⟨rfl, hb4⟩
    have HB4 := Lib.hid (HB3.out.trans (hb4.mono HB3.out.size))
    have HX4 := Lib.hid (box_below HX3.out hb4)
    clear hb4 c0 c1 c2 c3 c4 c5 c6 c7 c8 c9 c10 c11 c12 c13 c14 c15 c16
    obtain ⟨c0, c1, c2, c3, c4, c5, c6, c7, c8, c9, c10, c11, c12, c13, c14, c15, c16⟩ := cells17 HX4.out
    go_wp2_with fail
    refine (HSH3.out _).mono ?_
    rintro e w5 ⟨rfl, hb5⟩
    have HB5 := Lib.hid (HB4.out.trans (hb5.mono HB4.out.size))
    have HX5 := Lib.hid (box_below HX4.out hb5)
    clear hb5 c0 c1 c2 c3 c4 c5 c6 c7 c8 c9 c10 c11 c12 c13 c14 c15 c16
    obtain ⟨c0, c1, c2, c3, c4, c5, c6, c7, c8, c9, c10, c11, c12, c13, c14, c15, c16⟩ := cells17 HX5.out
    go_wp2_with fail
    exact HB5
  | true =>
    conv => arg 2; whnf
    obtain ⟨c0, c1, c2, c3, c4, c5, c6, c7, c8, c9, c10, c11, c12, c13, c14, c15, c16⟩ := cells17 HX1.out
    go_wp2_with fail
    refine (HSH1.out _).mono ?_
    rintro e w3 ⟨rfl, hb3⟩
    have HB3 := Lib.hid (hb3)
    have HX3 := Lib.hid (box_below HX1.out hb3)
    clear hb3 c0 c1 c2 c3 c4 c5 c6 c7 c8 c9 c10 c11 c12 c13 c14 c15 c16
    obtain ⟨c0, c1, c2, c3, c4, c5, c6, c7, c8, c9, c10, c11, c12, c13, c14, c15, c16⟩ := cells17 HX3.out
    go_wp2_with fail
    refine (HSH2.out _).mono ?_
    rintro e w4 ⟨rfl, hb4⟩
    have HB4 := Lib.hid (HB3.out.trans (hb4.mono HB3.out.size))
    have HX4 := Lib.hid (box_below HX3.out hb4)
    clear hb4 c0 c1 c2 c3 c4 c5 c6 c7 c8 c9 c10 c11 c12 c13 c14 c15 c16
    obtain ⟨c0, c1, c2, c3, c4, c5, c6, c7, c8, c9, c10, c11, c12, c13, c14, c15, c16⟩ := cells17 HX4.out
    go_wp2_with fail
    refine (HSH3.out _).mono ?_
    rintro e w5 ⟨rfl, hb5⟩
    have HB5 := Lib.hid (HB4.out.trans (hb5.mono HB4.out.size))
    have HX5 := Lib.hid (box_below HX4.out hb5)
    clear hb5 c0 c1 c2 c3 c4 c5 c6 c7 c8 c9 c10 c11 c12 c13 c14 c15 c16
    obtain ⟨c0, c1, c2, c3, c4, c5, c6, c7, c8, c9, c10, c11, c12, c13, c14, c15, c16⟩ := cells17 HX5.out
    go_wp2_with fail
    exact HB5
end Go.Proofs.Ytghimladdioajaa
