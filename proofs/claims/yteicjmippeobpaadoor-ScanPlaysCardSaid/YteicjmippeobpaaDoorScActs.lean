/- A slice of acts that came in, as its cells lie in memory. -/
import Derived.Test.YteicjmippeobpaaDoorScRows
import Derived.Test.YteicjmippeobpaaDoorOpen
import Derived.Deep.Slices
import Derived.Deep.Fields
import Derived.ChangeSame
namespace Go.Proofs.YteicjmippeobpaaDoor
open Go Go.RowKit Go.ChangeShapes Go.WideShapes Go.Deep
/-- a slice of integers that is read: its first cells -/
def IntsAt (w : World) (a : Option Addr) (n : Nat) (zs : List Int) : Prop :=
  n = zs.length ∧ (zs = [] ∨ ∃ b off, a = some ⟨b, off, none⟩ ∧ b < w.heap.size ∧ ∀ j, j < zs.length → w.cell? ⟨b, off + j, none⟩ = some (.int .i64 (zs.getD j 0))) ∧ ∀ n ∈ zs, -9223372036854775808 ≤ n ∧ n ≤ 9223372036854775807
/-- one act's cells -/
def ActAt (w : World) (b o : Nat) : Prop :=
  ∃ (kd nn : Int) (t : ByteArray) (sg : Int) (ca : Option Addr) (cl cc : Nat) (cs : List Int),
    w.cell? ⟨b, o, none⟩ = some (.int .u8 kd) ∧ w.cell? ⟨b, o + 1, none⟩ = some (.int .u8 nn) ∧ w.cell? ⟨b, o + 2, none⟩ = some (.string t) ∧ w.cell? ⟨b, o + 3, none⟩ = some (.int .i32 sg) ∧ w.cell? ⟨b, o + 4, none⟩ = some (.slice ca cl cc) ∧
    0 ≤ kd ∧ kd ≤ 255 ∧ 0 ≤ nn ∧ nn ≤ 255 ∧ t.size ≤ 9223372036854775807 ∧ -2147483648 ≤ sg ∧ sg ≤ 2147483647 ∧ cl ≤ cc ∧ cl ≤ 9223372036854775807 ∧ IntsAt w ca cl cs
def ActsAt (w : World) (a : Option Addr) (len : Nat) : Prop :=
  len = 0 ∨ ∃ b off, a = some ⟨b, off, none⟩ ∧ len ≤ 9223372036854775807 ∧ ∀ i, i < len → ActAt w b (off + i * 5)
theorem IntsAt.below {w w' : World} {a : Option Addr} {n : Nat} {zs : List Int} (h : IntsAt w a n zs) (hb : Below w.heap.size w w') : IntsAt w' a n zs := by
  obtain ⟨h1, h2, h3⟩ := h
  refine ⟨h1, ?_, h3⟩
  rcases h2 with h2 | ⟨b, off, h4, h5, h6⟩
  · exact .inl h2
  · exact .inr ⟨b, off, h4, Nat.lt_of_lt_of_le h5 hb.size, fun j hj => (hb.cell (p := ⟨b, off + j, none⟩) h5).trans (h6 j hj)⟩
theorem ActAt.below {w w' : World} {b o : Nat} (h : ActAt w b o) (hb : Below w.heap.size w w') : ActAt w' b o := by
  obtain ⟨kd, nn, t, sg, ca, cl, cc, cs, h0, h1, h2, h3, h4, r⟩ := h
  have hlt := block_lt_of_cell h0
  have hk : ∀ o, w'.cell? ⟨b, o, none⟩ = w.cell? ⟨b, o, none⟩ := fun o => hb.cell (p := ⟨b, o, none⟩) hlt
  refine ⟨kd, nn, t, sg, ca, cl, cc, cs, (hk _).trans h0, (hk _).trans h1, (hk _).trans h2, (hk _).trans h3, (hk _).trans h4, ?_⟩
  obtain ⟨r1, r2, r3, r4, r5, r6, r7, r8, r9, r10⟩ := r
  exact ⟨r1, r2, r3, r4, r5, r6, r7, r8, r9, r10.below hb⟩
theorem ActsAt.below {w w' : World} {a : Option Addr} {len : Nat} (h : ActsAt w a len) (hb : Below w.heap.size w w') : ActsAt w' a len := by
  rcases h with h | ⟨b, off, h1, h2, h3⟩
  · exact .inl h
  · exact .inr ⟨b, off, h1, h2, fun i hi => (h3 i hi).below hb⟩
/-- out of what came in -/
theorem ints_of_cells {w : World} {x : Addr} {len : Nat} {z : List Int} (hl : len ≤ z.length) (h4 : ∀ i, i < z.length → w.cell? (x.add i) = some (.int .i64 (z.getD i 0))) (h5 : ∀ n ∈ z, (Lit.int .i64 n).wf = true) : IntsAt w (some x) len (z.take len) := by
  refine ⟨by simp; omega, ?_, fun n hn => ?_⟩
  · by_cases h0 : len = 0
    · subst h0; exact .inl rfl
    · right
      have hx := h4 0 (by omega)
      obtain ⟨b, off, sp⟩ := x
      have hs : sp = none := by
        cases sp with
        | none => rfl
        | some s => exfalso; rw [show (⟨b, off, some s⟩ : Addr).add 0 = ⟨b, off, some s⟩ from rfl] at hx; unfold World.cell? at hx; simp only [Option.isSome_some, if_true] at hx; split at hx <;> cases hx
      subst hs
      refine ⟨b, off, rfl, ?_, fun j hj => ?_⟩
      · exact block_lt_of_cell (a := ⟨b, off, none⟩) hx
      · have hj2 : j < z.length := by simp at hj; omega
        have := h4 j hj2
        rw [show (⟨b, off, none⟩ : Addr).add j = ⟨b, off + j, none⟩ from by unfold Addr.add; split <;> simp_all] at this
        rw [this, List.getD_eq_getElem?_getD, List.getD_eq_getElem?_getD, List.getElem?_take_of_lt (by simp at hj; omega)]
  · have := h5 n (List.mem_of_mem_take hn)
    simp [Lit.wf, IntKind.min, IntKind.max, IntKind.signed, IntKind.bits] at this
    omega
section
variable {H : Type} {enc : TypeId × Value → H} {w : World} {base : Nat} {spare : Nat → Bool} {held : Bool}
theorem add_plain (b off n : Nat) : (⟨b, off, none⟩ : Addr).add n = ⟨b, off + n, none⟩ := by unfold Addr.add; split <;> simp_all
theorem wf_bounds {k : IntKind} {n : Int} (h : (Lit.int k n).wf = true) : k.min ≤ n ∧ n ≤ k.max := by simpa [Lit.wf] using h
set_option maxRecDepth 100000 in
theorem open_acts {fuel : Nat} {cs : List Value} {x : DataW H × List MemPlace} (h : DataW.trod enc Tryd.prog w base spare held fuel 46 cs = some x) :
    ∃ a len cap, cs = [.slice a len cap] ∧ ActsAt w a len := by
  have hC : Tryd.prog.cellsOf 48 = 5 := by kernel_rfl
  rcases open_slice Tryd.underlying46 h with ⟨h0, _⟩ | ⟨a, len, cap, m, n, D, Pl, hcs, hb, hl, hm, hmm, hx, hi⟩
  · exact ⟨none, 0, 0, h0, .inl rfl⟩
  · refine ⟨some a, len, cap, hcs, ?_⟩
    by_cases h0 : len = 0
    · exact .inl h0
    right
    have hlm : len ≤ m := by rw [hmm]; split <;> omega
    have hcells : ∀ i, i < len → ∃ (v0 v1 v2 v3 v4 : Value) (n' : Nat) (y0 y1 y2 y3 y4 : DataW H × List MemPlace), (∀ j v, [v0, v1, v2, v3, v4][j]? = some v → w.cell? ((a.add (i * 5)).add j) = some v) ∧
        DataW.trod enc Tryd.prog w base spare held n' 5 [v0] = some y0 ∧ DataW.trod enc Tryd.prog w base spare held n' 5 [v1] = some y1 ∧ DataW.trod enc Tryd.prog w base spare held n' 9 [v2] = some y2 ∧ DataW.trod enc Tryd.prog w base spare held n' 21 [v3] = some y3 ∧ DataW.trod enc Tryd.prog w base spare held n' 23 [v4] = some y4 := by
      intro i hil
      obtain ⟨cs', hc, ht'⟩ := hi i (by omega)
      rw [hC] at hc
      obtain ⟨_, hcl, hat⟩ := World.cells?_some hc
      obtain ⟨ys, n', hn', hy, hlen, hyl, hf⟩ := DataW.trod_struct Tryd.underlying48 ht'
      match cs', hcl with
      | [v0, v1, v2, v3, v4], _ =>
        have e0 := hf 0 _ rfl
        have e1 := hf 1 _ rfl
        have e2 := hf 2 _ rfl
        have e3 := hf 3 _ rfl
        have e4 := hf 4 _ rfl
        have hys : ys.length = 5 := hyl
        match ys, hys with
        | [y0, y1, y2, y3, y4], _ =>
          refine ⟨v0, v1, v2, v3, v4, n', y0, y1, y2, y3, y4, fun j v hj => ?_, ?_, ?_, ?_, ?_, ?_⟩
          · have hj5 : j < 5 := by
              have := (List.getElem?_eq_some_iff.1 hj).1
              simpa using this
            rw [hat j hj5]; exact hj
          · exact e0
          · exact e1
          · exact e2
          · exact e3
          · exact e4
    obtain ⟨b, off, sp⟩ := a
    have hs : sp = none := by
      obtain ⟨v0, v1, v2, v3, v4, n', y0, y1, y2, y3, y4, hcell, _⟩ := hcells 0 (by omega)
      have hx0 := hcell 0 v0 rfl
      cases sp with
      | none => rfl
      | some s => exfalso; rw [show ((⟨b, off, some s⟩ : Addr).add (0 * 5)).add 0 = ⟨b, off, some s⟩ from rfl] at hx0; unfold World.cell? at hx0; simp only [Option.isSome_some, if_true] at hx0; split at hx0 <;> cases hx0
    subst hs
    refine ⟨b, off, rfl, by unfold maxLen at hm; omega, fun i hil => ?_⟩
    obtain ⟨v0, v1, v2, v3, v4, n', y0, y1, y2, y3, y4, hcell, t0, t1, t2, t3, t4⟩ := hcells i hil
    have hcell' : ∀ j v, [v0, v1, v2, v3, v4][j]? = some v → w.cell? ⟨b, off + i * 5 + j, none⟩ = some v := by
      intro j v hj
      have := hcell j v hj
      rwa [add_plain, add_plain] at this
    obtain ⟨k0, q0, _, w0⟩ := DataW.trod_int Tryd.underlying5 t0
    obtain ⟨k1, q1, _, w1⟩ := DataW.trod_int Tryd.underlying5 t1
    obtain ⟨s2, q2, _, w2⟩ := DataW.trod_string Tryd.underlying9 t2
    obtain ⟨k3, q3, _, w3⟩ := DataW.trod_int Tryd.underlying21 t3
    cases q0; cases q1; cases q2; cases q3
    have b0 := wf_bounds w0
    have b1 := wf_bounds w1
    have b3 := wf_bounds w3
    have f0 : (0 : Int) ≤ k0 ∧ k0 ≤ 255 := b0
    have f1 : (0 : Int) ≤ k1 ∧ k1 ≤ 255 := b1
    have f3 : (-2147483648 : Int) ≤ k3 ∧ k3 ≤ 2147483647 := b3
    have hv4 : ∃ ca cl cc z, v4 = .slice ca cl cc ∧ IntsAt w ca cl z ∧ cl ≤ cc ∧ cc ≤ 9223372036854775807 := by
      rcases open_ints Tryd.underlying23 Tryd.underlying3 (by kernel_rfl) t4 with ⟨hcs4, _⟩ | ⟨x4, l4, c4, zs, hcs4, _, hl4, hm4, hz4, _, hcell4, hwz4⟩
      · cases hcs4
        exact ⟨none, 0, 0, [], rfl, ⟨rfl, .inl rfl, fun n hn => by cases hn⟩, Nat.le_refl _, by omega⟩
      · cases hcs4
        exact ⟨some x4, l4, c4, zs.take l4, rfl, ints_of_cells (by rw [hz4]; split <;> omega) hcell4 hwz4, hl4, by unfold maxLen at hm4; omega⟩
    obtain ⟨ca, cl, cc, z, rfl, hz, hcl, hcc⟩ := hv4
    have h00 := hcell' 0 _ rfl
    rw [Nat.add_zero] at h00
    unfold maxLen at w2
    exact ⟨k0, k1, s2, k3, ca, cl, cc, z, h00, hcell' 1 _ rfl, hcell' 2 _ rfl, hcell' 3 _ rfl, hcell' 4 _ rfl, f0.1, f0.2, f1.1, f1.2, by omega, f3.1, f3.2, hcl, by omega, hz⟩
end
end Go.Proofs.YteicjmippeobpaaDoor
