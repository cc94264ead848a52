/- The law TermOrders: its walk. Every three terms. -/
import Derived.Test.YteeajhnbifpklaaDoorRfEqu
import Derived.Test.YteeajhnbifpklaaDoorReg
import Derived.Test.YteeajhnbifpklaaDoorTmOrd
import Derived.Test.YteeajhnbifpklaaDoorTvLaid
import Derived.Test.YteeajhnbifpklaaDoorTmOpen
namespace Go.Proofs.YteeajhnbifpklaaDoor
open Go Go.RowKit
set_option linter.unusedVariables false
set_option linter.unusedSimpArgs false
set_option maxRecDepth 100000
theorem osized_of {k : Int} {x t l : ByteArray} (h : shortV x t l = true) : Sized (termOf k x t l) ∧ (text0 (termOf k x t l)).size ≤ 6000 := by
  unfold shortV at h
  simp only [Bool.and_eq_true, decide_eq_true_eq] at h
  unfold termOf
  split
  · exact ⟨show x.size ≤ 1000000 by omega, show x.size ≤ 6000 by omega⟩
  · split
    · exact ⟨show x.size ≤ 1000000 by omega, show x.size ≤ 6000 by omega⟩
    · split
      · exact ⟨⟨by omega, by omega, by omega⟩, show x.size ≤ 6000 by omega⟩
      · exact ⟨trivial, show (0 : Nat) ≤ 6000 by omega⟩
theorem okept {w w1 w2 : World} {a0 a1 a2 a3 a4 a5 a6 a7 a8 a9 a10 a11 : Addr} {v0 v1 v2 v3 v4 v5 v6 v7 v8 v9 v10 v11 : Value} (h : w1.cell? a0 = some v0 ∧ w1.cell? a1 = some v1 ∧ w1.cell? a2 = some v2 ∧ w1.cell? a3 = some v3 ∧ w1.cell? a4 = some v4 ∧ w1.cell? a5 = some v5 ∧ w1.cell? a6 = some v6 ∧ w1.cell? a7 = some v7 ∧ w1.cell? a8 = some v8 ∧ w1.cell? a9 = some v9 ∧ w1.cell? a10 = some v10 ∧ w1.cell? a11 = some v11 ∧ Below w.heap.size w w1) (hb : Below w1.heap.size w1 w2) :
    w2.cell? a0 = some v0 ∧ w2.cell? a1 = some v1 ∧ w2.cell? a2 = some v2 ∧ w2.cell? a3 = some v3 ∧ w2.cell? a4 = some v4 ∧ w2.cell? a5 = some v5 ∧ w2.cell? a6 = some v6 ∧ w2.cell? a7 = some v7 ∧ w2.cell? a8 = some v8 ∧ w2.cell? a9 = some v9 ∧ w2.cell? a10 = some v10 ∧ w2.cell? a11 = some v11 ∧ Below w.heap.size w w2 := by
  obtain ⟨h0, h1, h2, h3, h4, h5, h6, h7, h8, h9, h10, h11, z⟩ := h
  exact ⟨cell_below h0 hb, cell_below h1 hb, cell_below h2 hb, cell_below h3 hb, cell_below h4 hb, cell_below h5 hb, cell_below h6 hb, cell_below h7 hb, cell_below h8 hb, cell_below h9 hb, cell_below h10 hb, cell_below h11 hb, z.trans (hb.mono z.size)⟩
/-- a block of four cells of the call's own, not frozen; once it is stored into it holds these -/
def Box (w : World) (g : Nat) (d : Bool) (v0 v1 v2 v3 : Value) : Prop :=
  ∃ c0 c1 c2 c3, w.cell? ⟨g, 0, none⟩ = some c0 ∧ w.cell? ⟨g, 1, none⟩ = some c1 ∧ w.cell? ⟨g, 2, none⟩ = some c2 ∧ w.cell? ⟨g, 3, none⟩ = some c3 ∧
    w.frozen? ⟨g, 0, none⟩ = false ∧ w.frozen? ⟨g, 1, none⟩ = false ∧ w.frozen? ⟨g, 2, none⟩ = false ∧ w.frozen? ⟨g, 3, none⟩ = false ∧ (d = true → c0 = v0 ∧ c1 = v1 ∧ c2 = v2 ∧ c3 = v3)
theorem box_below {w w' : World} {g : Nat} {d : Bool} {v0 v1 v2 v3 : Value} (h : Box w g d v0 v1 v2 v3) (hb : Below w.heap.size w w') : Box w' g d v0 v1 v2 v3 := by
  obtain ⟨c0, c1, c2, c3, h0, h1, h2, h3, f0, f1, f2, f3, hd⟩ := h
  have e : ∀ j, w'.frozen? ⟨g, j, none⟩ = w.frozen? ⟨g, j, none⟩ := fun j => hb.frozen (p := ⟨g, j, none⟩) (show g < w.heap.size from World.block_lt_of_cell? w ⟨g, 0, none⟩ h0)
  exact ⟨c0, c1, c2, c3, cell_below h0 hb, cell_below h1 hb, cell_below h2 hb, cell_below h3 hb, by rw [e]; exact f0, by rw [e]; exact f1, by rw [e]; exact f2, by rw [e]; exact f3, hd⟩
theorem box_lt {w : World} {g : Nat} {d : Bool} {v0 v1 v2 v3 : Value} (h : Box w g d v0 v1 v2 v3) : g < w.heap.size := by
  obtain ⟨c0, c1, c2, c3, h0, _⟩ := h
  exact World.block_lt_of_cell? w ⟨g, 0, none⟩ h0
theorem box_new {w : World} {v0 v1 v2 v3 : Value} (u : Unit) : Box (w.alloc (.cells #[.int .i64 0, .string ⟨#[]⟩, .string ⟨#[]⟩, .string ⟨#[]⟩] 23)) w.heap.size false v0 v1 v2 v3 :=
  ⟨.int .i64 0, .string ⟨#[]⟩, .string ⟨#[]⟩, .string ⟨#[]⟩, by simp [go_sem], by simp [go_sem], by simp [go_sem], by simp [go_sem], by simp [go_sem], by simp [go_sem], by simp [go_sem], by simp [go_sem], fun h => by cases h⟩
theorem box_store {w : World} {g : Nat} {d : Bool} {u0 u1 u2 u3 v0 v1 v2 v3 : Value} (h : Box w g d u0 u1 u2 u3) :
    Box ((((w.setCell ⟨g, 0, none⟩ v0).setCell ⟨g, 1, none⟩ v1).setCell ⟨g, 2, none⟩ v2).setCell ⟨g, 3, none⟩ v3) g true v0 v1 v2 v3 := by
  obtain ⟨c0, c1, c2, c3, h0, h1, h2, h3, f0, f1, f2, f3, hd⟩ := h
  have ne : ∀ i j : Nat, i ≠ j → (⟨g, i, none⟩ : Addr) ≠ ⟨g, j, none⟩ := fun i j hh e => by cases e; exact hh rfl
  refine ⟨v0, v1, v2, v3, ?_, ?_, ?_, ?_, ?_, ?_, ?_, ?_, fun _ => ⟨rfl, rfl, rfl, rfl⟩⟩
  · rw [World.cell?_setCell_other _ _ _ _ (ne 3 0 (by omega)), World.cell?_setCell_other _ _ _ _ (ne 2 0 (by omega)), World.cell?_setCell_other _ _ _ _ (ne 1 0 (by omega))]
    exact World.cell?_setCell_same _ _ _ h0
  · rw [World.cell?_setCell_other _ _ _ _ (ne 3 1 (by omega)), World.cell?_setCell_other _ _ _ _ (ne 2 1 (by omega))]
    exact World.cell?_setCell_same _ _ _ ((World.cell?_setCell_other _ _ _ _ (ne 0 1 (by omega))).trans h1)
  · rw [World.cell?_setCell_other _ _ _ _ (ne 3 2 (by omega))]
    exact World.cell?_setCell_same _ _ _ ((World.cell?_setCell_other _ _ _ _ (ne 1 2 (by omega))).trans ((World.cell?_setCell_other _ _ _ _ (ne 0 2 (by omega))).trans h2))
  · exact World.cell?_setCell_same _ _ _ ((World.cell?_setCell_other _ _ _ _ (ne 2 3 (by omega))).trans ((World.cell?_setCell_other _ _ _ _ (ne 1 3 (by omega))).trans ((World.cell?_setCell_other _ _ _ _ (ne 0 3 (by omega))).trans h3)))
  all_goals (simp only [World.frozen?_setCell]; assumption)
theorem box_other {w : World} {g g' : Nat} {d : Bool} {u0 u1 u2 u3 v0 v1 v2 v3 : Value} (h : Box w g d u0 u1 u2 u3) (hne : g ≠ g') :
    Box ((((w.setCell ⟨g', 0, none⟩ v0).setCell ⟨g', 1, none⟩ v1).setCell ⟨g', 2, none⟩ v2).setCell ⟨g', 3, none⟩ v3) g d u0 u1 u2 u3 := by
  obtain ⟨c0, c1, c2, c3, h0, h1, h2, h3, f0, f1, f2, f3, hd⟩ := h
  have ne : ∀ i j : Nat, (⟨g', i, none⟩ : Addr) ≠ ⟨g, j, none⟩ := fun i j e => by cases e; exact hne rfl
  have key : ∀ i c, w.cell? ⟨g, i, none⟩ = some c → ((((w.setCell ⟨g', 0, none⟩ v0).setCell ⟨g', 1, none⟩ v1).setCell ⟨g', 2, none⟩ v2).setCell ⟨g', 3, none⟩ v3).cell? ⟨g, i, none⟩ = some c := fun i c hc => by
    rw [World.cell?_setCell_other _ _ _ _ (ne 3 i), World.cell?_setCell_other _ _ _ _ (ne 2 i), World.cell?_setCell_other _ _ _ _ (ne 1 i), World.cell?_setCell_other _ _ _ _ (ne 0 i)]
    exact hc
  refine ⟨c0, c1, c2, c3, key 0 c0 h0, key 1 c1 h1, key 2 c2 h2, key 3 c3 h3, ?_, ?_, ?_, ?_, hd⟩
  all_goals (simp only [World.frozen?_setCell]; assumption)
theorem below_store {w w' : World} {B g : Nat} {v0 v1 v2 v3 : Value} (h : Below B w w') (hg : B ≤ g) : Below B w ((((w'.setCell ⟨g, 0, none⟩ v0).setCell ⟨g, 1, none⟩ v1).setCell ⟨g, 2, none⟩ v2).setCell ⟨g, 3, none⟩ v3) :=
  (((h.setCell (p := ⟨g, 0, none⟩) hg _).setCell (p := ⟨g, 1, none⟩) hg _).setCell (p := ⟨g, 2, none⟩) hg _).setCell (p := ⟨g, 3, none⟩) hg _
theorem ready_nil {md : Region.Mode} {ops : Array Oper} {l : Array Bool} {i : Nat} {o : Oper} (hr : Region.ready md ops l = []) (ho : ops[i]? = some o) (hd : ∀ e ∈ o.after, Region.binds md e = true → l.getD e.on false = true) : l.getD i true = true := by
  cases h : l.getD i true with
  | true => rfl
  | false =>
    have := mem_ready.2 ⟨h, o, ho, hd⟩
    rw [hr] at this
    cases this
set_option maxHeartbeats 25600000 in
theorem orders_walk (k k2 k3 : Int) (x t l x2 t2 l2 x3 t3 l3 : ByteArray) (w : World) (hv : ErrV w) :
    Calls Tryd.prog 8 #[.agg #[.int .i64 k, .string x, .string t, .string l], .agg #[.int .i64 k2, .string x2, .string t2, .string l2], .agg #[.int .i64 k3, .string x3, .string t3, .string l3]] w fun e w' => e = .returned (.bool true) ∧ Below w.heap.size w w' := by
  have AW := Lib.hid (fun w hv => awake3_any w hv)
  have HEV := Lib.hid (fun w' (hb : Below w.heap.size w w') => hv.below hb)
  clear hv
  have SH0 := Lib.hid (short_any k x t l)
  have SH1 := Lib.hid (short_any k2 x2 t2 l2)
  have SH2 := Lib.hid (short_any k3 x3 t3 l3)
  obtain ⟨b1, hb1⟩ : ∃ b, b = shortV x t l := ⟨_, rfl⟩
  rw [← hb1] at SH0
  have HB1 := Lib.hid hb1
  clear hb1
  obtain ⟨b2, hb2⟩ : ∃ b, b = shortV x2 t2 l2 := ⟨_, rfl⟩
  rw [← hb2] at SH1
  have HB2 := Lib.hid hb2
  clear hb2
  obtain ⟨b3, hb3⟩ : ∃ b, b = shortV x3 t3 l3 := ⟨_, rfl⟩
  rw [← hb3] at SH2
  have HB3 := Lib.hid hb3
  clear hb3
  have HX0 : Hid ((((w.alloc (.cells #[.int .i64 k, .string x, .string t, .string l] 23)).alloc (.cells #[.int .i64 k2, .string x2, .string t2, .string l2] 23)).alloc (.cells #[.int .i64 k3, .string x3, .string t3, .string l3] 23)).cell? ⟨w.heap.size, 0, none⟩ = some (.int .i64 k) ∧ (((w.alloc (.cells #[.int .i64 k, .string x, .string t, .string l] 23)).alloc (.cells #[.int .i64 k2, .string x2, .string t2, .string l2] 23)).alloc (.cells #[.int .i64 k3, .string x3, .string t3, .string l3] 23)).cell? ⟨w.heap.size, 1, none⟩ = some (.string x) ∧ (((w.alloc (.cells #[.int .i64 k, .string x, .string t, .string l] 23)).alloc (.cells #[.int .i64 k2, .string x2, .string t2, .string l2] 23)).alloc (.cells #[.int .i64 k3, .string x3, .string t3, .string l3] 23)).cell? ⟨w.heap.size, 2, none⟩ = some (.string t) ∧ (((w.alloc (.cells #[.int .i64 k, .string x, .string t, .string l] 23)).alloc (.cells #[.int .i64 k2, .string x2, .string t2, .string l2] 23)).alloc (.cells #[.int .i64 k3, .string x3, .string t3, .string l3] 23)).cell? ⟨w.heap.size, 3, none⟩ = some (.string l) ∧ (((w.alloc (.cells #[.int .i64 k, .string x, .string t, .string l] 23)).alloc (.cells #[.int .i64 k2, .string x2, .string t2, .string l2] 23)).alloc (.cells #[.int .i64 k3, .string x3, .string t3, .string l3] 23)).cell? ⟨w.heap.size + 1, 0, none⟩ = some (.int .i64 k2) ∧ (((w.alloc (.cells #[.int .i64 k, .string x, .string t, .string l] 23)).alloc (.cells #[.int .i64 k2, .string x2, .string t2, .string l2] 23)).alloc (.cells #[.int .i64 k3, .string x3, .string t3, .string l3] 23)).cell? ⟨w.heap.size + 1, 1, none⟩ = some (.string x2) ∧ (((w.alloc (.cells #[.int .i64 k, .string x, .string t, .string l] 23)).alloc (.cells #[.int .i64 k2, .string x2, .string t2, .string l2] 23)).alloc (.cells #[.int .i64 k3, .string x3, .string t3, .string l3] 23)).cell? ⟨w.heap.size + 1, 2, none⟩ = some (.string t2) ∧ (((w.alloc (.cells #[.int .i64 k, .string x, .string t, .string l] 23)).alloc (.cells #[.int .i64 k2, .string x2, .string t2, .string l2] 23)).alloc (.cells #[.int .i64 k3, .string x3, .string t3, .string l3] 23)).cell? ⟨w.heap.size + 1, 3, none⟩ = some (.string l2) ∧ (((w.alloc (.cells #[.int .i64 k, .string x, .string t, .string l] 23)).alloc (.cells #[.int .i64 k2, .string x2, .string t2, .string l2] 23)).alloc (.cells #[.int .i64 k3, .string x3, .string t3, .string l3] 23)).cell? ⟨w.heap.size + 2, 0, none⟩ = some (.int .i64 k3) ∧ (((w.alloc (.cells #[.int .i64 k, .string x, .string t, .string l] 23)).alloc (.cells #[.int .i64 k2, .string x2, .string t2, .string l2] 23)).alloc (.cells #[.int .i64 k3, .string x3, .string t3, .string l3] 23)).cell? ⟨w.heap.size + 2, 1, none⟩ = some (.string x3) ∧ (((w.alloc (.cells #[.int .i64 k, .string x, .string t, .string l] 23)).alloc (.cells #[.int .i64 k2, .string x2, .string t2, .string l2] 23)).alloc (.cells #[.int .i64 k3, .string x3, .string t3, .string l3] 23)).cell? ⟨w.heap.size + 2, 2, none⟩ = some (.string t3) ∧ (((w.alloc (.cells #[.int .i64 k, .string x, .string t, .string l] 23)).alloc (.cells #[.int .i64 k2, .string x2, .string t2, .string l2] 23)).alloc (.cells #[.int .i64 k3, .string x3, .string t3, .string l3] 23)).cell? ⟨w.heap.size + 2, 3, none⟩ = some (.string l3) ∧ Below w.heap.size w (((w.alloc (.cells #[.int .i64 k, .string x, .string t, .string l] 23)).alloc (.cells #[.int .i64 k2, .string x2, .string t2, .string l2] 23)).alloc (.cells #[.int .i64 k3, .string x3, .string t3, .string l3] 23))) := Lib.hid ⟨by simp [go_sem], by simp [go_sem], by simp [go_sem], by simp [go_sem], by simp [go_sem], by simp [go_sem], by simp [go_sem], by simp [go_sem], by simp [go_sem], by simp [go_sem], by simp [go_sem], by simp [go_sem], by go_grown⟩
  cases b1 with
  | false =>
    go_enter Tryd.func8, Tryd.ntmps8
    go_wp2_with fail
    refine (AW.out _ (HEV.out _ HX0.out.2.2.2.2.2.2.2.2.2.2.2.2)).mono ?_
    rintro e w1 ⟨rfl, hbn⟩
    have HX := Lib.hid (okept HX0.out hbn)
    clear hbn HX0
    obtain ⟨c0, c1, c2, c3, c4, c5, c6, c7, c8, c9, c10, c11, cz⟩ := HX.out
    go_wp2_with fail
    refine (SH0.out _).mono ?_
    rintro e wn ⟨rfl, hbn⟩
    replace HX := Lib.hid (okept HX.out hbn)
    clear hbn cz c0 c1 c2 c3 c4 c5 c6 c7 c8 c9 c10 c11
    obtain ⟨c0, c1, c2, c3, c4, c5, c6, c7, c8, c9, c10, c11, cz⟩ := HX.out
    go_wp2_with fail
    refine (AW.out _ (HEV.out _ cz)).mono ?_
    rintro e wn ⟨rfl, hbn⟩
    go_wp2_with fail
    go_ret
    exact ⟨rfl, cz.trans (hbn.mono cz.size)⟩
  | true =>
    cases b2 with
    | false =>
      go_enter Tryd.func8, Tryd.ntmps8
      go_wp2_with fail
      refine (AW.out _ (HEV.out _ HX0.out.2.2.2.2.2.2.2.2.2.2.2.2)).mono ?_
      rintro e w1 ⟨rfl, hbn⟩
      have HX := Lib.hid (okept HX0.out hbn)
      clear hbn HX0
      obtain ⟨c0, c1, c2, c3, c4, c5, c6, c7, c8, c9, c10, c11, cz⟩ := HX.out
      go_wp2_with fail
      refine (SH0.out _).mono ?_
      rintro e wn ⟨rfl, hbn⟩
      replace HX := Lib.hid (okept HX.out hbn)
      clear hbn cz c0 c1 c2 c3 c4 c5 c6 c7 c8 c9 c10 c11
      obtain ⟨c0, c1, c2, c3, c4, c5, c6, c7, c8, c9, c10, c11, cz⟩ := HX.out
      go_wp2_with fail
      refine (SH1.out _).mono ?_
      rintro e wn ⟨rfl, hbn⟩
      replace HX := Lib.hid (okept HX.out hbn)
      clear hbn cz c0 c1 c2 c3 c4 c5 c6 c7 c8 c9 c10 c11
      obtain ⟨c0, c1, c2, c3, c4, c5, c6, c7, c8, c9, c10, c11, cz⟩ := HX.out
      go_wp2_with fail
      refine (AW.out _ (HEV.out _ cz)).mono ?_
      rintro e wn ⟨rfl, hbn⟩
      go_wp2_with fail
      go_ret
      exact ⟨rfl, cz.trans (hbn.mono cz.size)⟩
    | true =>
      cases b3 with
      | false =>
        go_enter Tryd.func8, Tryd.ntmps8
        go_wp2_with fail
        refine (AW.out _ (HEV.out _ HX0.out.2.2.2.2.2.2.2.2.2.2.2.2)).mono ?_
        rintro e w1 ⟨rfl, hbn⟩
        have HX := Lib.hid (okept HX0.out hbn)
        clear hbn HX0
        obtain ⟨c0, c1, c2, c3, c4, c5, c6, c7, c8, c9, c10, c11, cz⟩ := HX.out
        go_wp2_with fail
        refine (SH0.out _).mono ?_
        rintro e wn ⟨rfl, hbn⟩
        replace HX := Lib.hid (okept HX.out hbn)
        clear hbn cz c0 c1 c2 c3 c4 c5 c6 c7 c8 c9 c10 c11
        obtain ⟨c0, c1, c2, c3, c4, c5, c6, c7, c8, c9, c10, c11, cz⟩ := HX.out
        go_wp2_with fail
        refine (SH1.out _).mono ?_
        rintro e wn ⟨rfl, hbn⟩
        replace HX := Lib.hid (okept HX.out hbn)
        clear hbn cz c0 c1 c2 c3 c4 c5 c6 c7 c8 c9 c10 c11
        obtain ⟨c0, c1, c2, c3, c4, c5, c6, c7, c8, c9, c10, c11, cz⟩ := HX.out
        go_wp2_with fail
        refine (SH2.out _).mono ?_
        rintro e wn ⟨rfl, hbn⟩
        replace HX := Lib.hid (okept HX.out hbn)
        clear hbn cz c0 c1 c2 c3 c4 c5 c6 c7 c8 c9 c10 c11
        obtain ⟨c0, c1, c2, c3, c4, c5, c6, c7, c8, c9, c10, c11, cz⟩ := HX.out
        go_wp2_with fail
        refine (AW.out _ (HEV.out _ cz)).mono ?_
        rintro e wn ⟨rfl, hbn⟩
        go_wp2_with fail
        go_ret
        exact ⟨rfl, cz.trans (hbn.mono cz.size)⟩
      | true =>
        go_enter Tryd.func8, Tryd.ntmps8
        go_wp2_with fail
        refine (AW.out _ (HEV.out _ HX0.out.2.2.2.2.2.2.2.2.2.2.2.2)).mono ?_
        rintro e w1 ⟨rfl, hbn⟩
        have HX := Lib.hid (okept HX0.out hbn)
        clear hbn HX0
        obtain ⟨c0, c1, c2, c3, c4, c5, c6, c7, c8, c9, c10, c11, cz⟩ := HX.out
        go_wp2_with fail
        refine (SH0.out _).mono ?_
        rintro e wn ⟨rfl, hbn⟩
        replace HX := Lib.hid (okept HX.out hbn)
        clear hbn cz c0 c1 c2 c3 c4 c5 c6 c7 c8 c9 c10 c11
        obtain ⟨c0, c1, c2, c3, c4, c5, c6, c7, c8, c9, c10, c11, cz⟩ := HX.out
        go_wp2_with fail
        refine (SH1.out _).mono ?_
        rintro e wn ⟨rfl, hbn⟩
        replace HX := Lib.hid (okept HX.out hbn)
        clear hbn cz c0 c1 c2 c3 c4 c5 c6 c7 c8 c9 c10 c11
        obtain ⟨c0, c1, c2, c3, c4, c5, c6, c7, c8, c9, c10, c11, cz⟩ := HX.out
        go_wp2_with fail
        refine (SH2.out _).mono ?_
        rintro e wn ⟨rfl, hbn⟩
        replace HX := Lib.hid (okept HX.out hbn)
        clear hbn cz c0 c1 c2 c3 c4 c5 c6 c7 c8 c9 c10 c11
        obtain ⟨X, hX⟩ : ∃ X, X = termOf k x t l := ⟨_, rfl⟩
        obtain ⟨Y, hY⟩ : ∃ Y, Y = termOf k2 x2 t2 l2 := ⟨_, rfl⟩
        obtain ⟨Z, hZ⟩ : ∃ Z, Z = termOf k3 x3 t3 l3 := ⟨_, rfl⟩
        have MX : Made X := by rw [hX]; exact made_of _ _ _ _
        have MY : Made Y := by rw [hY]; exact made_of _ _ _ _
        have SX := osized_of (k := k) HB1.out.symm
        have SY := osized_of (k := k2) HB2.out.symm
        rw [← hX] at SX
        rw [← hY] at SY
        have PR0 : Hid (∀ w, Calls Tryd.prog 13 #[.agg #[.int .i64 k, .string x, .string t, .string l]] w fun e w' => e = .returned (rV X) ∧ Below w.heap.size w w') := Lib.hid (fun w => by have := plainr_any k x t l w; rw [plain_rV, ← hX] at this; exact this)
        have RR0 : Hid (∀ w, Calls Tryd.prog 12 #[rV X] w fun e w' => e = .returned (tmV X) ∧ Below w.heap.size w w') := Lib.hid (fun w => by have := real_plain k x t l w; rw [plain_rV, ← hX] at this; exact this)
        have PR1 : Hid (∀ w, Calls Tryd.prog 13 #[.agg #[.int .i64 k2, .string x2, .string t2, .string l2]] w fun e w' => e = .returned (rV Y) ∧ Below w.heap.size w w') := Lib.hid (fun w => by have := plainr_any k2 x2 t2 l2 w; rw [plain_rV, ← hY] at this; exact this)
        have RR1 : Hid (∀ w, Calls Tryd.prog 12 #[rV Y] w fun e w' => e = .returned (tmV Y) ∧ Below w.heap.size w w') := Lib.hid (fun w => by have := real_plain k2 x2 t2 l2 w; rw [plain_rV, ← hY] at this; exact this)
        have PR2 : Hid (∀ w, Calls Tryd.prog 13 #[.agg #[.int .i64 k3, .string x3, .string t3, .string l3]] w fun e w' => e = .returned (rV Z) ∧ Below w.heap.size w w') := Lib.hid (fun w => by have := plainr_any k3 x3 t3 l3 w; rw [plain_rV, ← hZ] at this; exact this)
        have RR2 : Hid (∀ w, Calls Tryd.prog 12 #[rV Z] w fun e w' => e = .returned (tmV Z) ∧ Below w.heap.size w w') := Lib.hid (fun w => by have := real_plain k3 x3 t3 l3 w; rw [plain_rV, ← hZ] at this; exact this)
        clear hX hY hZ
        have O12 := Lib.hid (order_any X Y)
        have O21 := Lib.hid (order_any Y X)
        have O23 := Lib.hid (order_any Y Z)
        have O13 := Lib.hid (order_any X Z)
        have L12 := Lib.hid (rless_any X Y)
        have L21 := Lib.hid (rless_any Y X)
        have SM := Lib.hid (fun w => (same_any X Y w).mono (fun e w' h => (⟨h.1, h.2 ▸ Below.refl _ _⟩ : e = .returned (.bool (eqT X Y)) ∧ Below w.heap.size w w')))
        have EQ12 := Lib.hid (fun w hv => equal_any X Y w SX.1 SY.1 hv)
        have EQ21 := Lib.hid (fun w hv => equal_any Y X w SY.1 SX.1 hv)
        have EQ11 := Lib.hid (fun w hv => equal_any X X w SX.1 SX.1 hv)
        have RQ := Lib.hid (fun w => requal_any X Y w SX.2 SY.2)
        have QE := eq_ref X Y
        have h21 := order_anti X Y
        have hov := order_vals X Y
        have htr := fun h h' => order_trans (x := X) (y := Y) (z := Z) h h'
        rw [order_less] at L12 L21
        rw [eqT_eqR MX MY] at SM
        rw [order_eq] at SM QE
        rw [equal_comm Y X] at EQ21
        have HQ := Lib.hid (fun h1 h2 => requal_equal MX MY h1 h2)
        have HE1 := Lib.hid (fun h => equal_self MX h)
        have HK := Lib.hid (kinds_of MX)
        have HK2 := Lib.hid (kinds_of MY)
        have HEK : Hid (orderV X Y = 0 → kindV X = kindV Y) := Lib.hid (fun h => order_kind h)
        have HQV := Lib.hid (equal_vals X Y)
        rw [h21] at O21 L21
        generalize orderV X Y = o at *
        generalize orderV Y Z = o2 at *
        generalize orderV X Z = o3 at *
        generalize equalV X Y = eV at *
        generalize equalV X X = eX at *
        generalize requalV X Y = rQ at *
        unfold rV at PR0 PR1 PR2 RR0 RR1 RR2 L12 L21 RQ QE
        generalize tmV X = vx at *
        generalize tmV Y = vy at *
        generalize tmV Z = vz at *
        generalize kindV X = K1 at *
        generalize text0 X = A1 at *
        generalize text1 X = B1 at *
        generalize text2 X = C1 at *
        generalize kindV Y = K2 at *
        generalize text0 Y = A2 at *
        generalize text1 Y = B2 at *
        generalize text2 Y = C2 at *
        generalize kindV Z = K3 at *
        generalize text0 Z = A3 at *
        generalize text1 Z = B3 at *
        generalize text2 Z = C3 at *
        have HTR := Lib.hid htr
        clear h21 MX MY SX SY htr SH0 SH1 SH2 HB1 HB2 HB3
        obtain ⟨c0, c1, c2, c3, c4, c5, c6, c7, c8, c9, c10, c11, cz⟩ := HX.out
        go_wp2_with fail
        refine wp_region_held_drew (S := fun w' => w'.cell? ⟨w.heap.size, 0, none⟩ = some (.int .i64 k) ∧ w'.cell? ⟨w.heap.size, 1, none⟩ = some (.string x) ∧ w'.cell? ⟨w.heap.size, 2, none⟩ = some (.string t) ∧ w'.cell? ⟨w.heap.size, 3, none⟩ = some (.string l) ∧ w'.cell? ⟨w.heap.size + 1, 0, none⟩ = some (.int .i64 k2) ∧ w'.cell? ⟨w.heap.size + 1, 1, none⟩ = some (.string x2) ∧ w'.cell? ⟨w.heap.size + 1, 2, none⟩ = some (.string t2) ∧ w'.cell? ⟨w.heap.size + 1, 3, none⟩ = some (.string l2) ∧ w'.cell? ⟨w.heap.size + 2, 0, none⟩ = some (.int .i64 k3) ∧ w'.cell? ⟨w.heap.size + 2, 1, none⟩ = some (.string x3) ∧ w'.cell? ⟨w.heap.size + 2, 2, none⟩ = some (.string t3) ∧ w'.cell? ⟨w.heap.size + 2, 3, none⟩ = some (.string l3) ∧ Below w.heap.size w w') (by kernel_rfl) ?hS3 (fun hHeld => ?_)
        case hS3 => exact ⟨c0, c1, c2, c3, c4, c5, c6, c7, c8, c9, c10, c11, cz.drew⟩
        refine wpAnyH_take (i := 0) (oi := ⟨some 33, _, _, _, _, _⟩) (v := ?vz0) rfl (by kernel_rfl) (by kernel_rfl) (by kernel_rfl) (fun _ _ _ h => h) (Or.inl ⟨by kernel_rfl, ?yz0⟩) (by assumption) ?rz0
        case yz0 =>
          intro w hSw
          try dsimp only at hSw
          first | (go_simp; done) | (go_simp; with_reducible rfl)
        try simp only [Act.put, List.setIfInBounds_toArray, List.set_cons_zero, List.set_cons_succ]
        refine wpAnyH_take (i := 2) (oi := ⟨some 35, _, _, _, _, _⟩) (v := ?vz2) rfl (by kernel_rfl) (by kernel_rfl) (by kernel_rfl) (fun _ _ _ h => h) (Or.inl ⟨by kernel_rfl, ?yz2⟩) (by assumption) ?rz2
        case yz2 =>
          intro w hSw
          try dsimp only at hSw
          first | (go_simp; done) | (go_simp; with_reducible rfl)
        try simp only [Act.put, List.setIfInBounds_toArray, List.set_cons_zero, List.set_cons_succ]
        refine wpAnyH_take (i := 4) (oi := ⟨some 37, _, _, _, _, _⟩) (v := ?vz4) rfl (by kernel_rfl) (by kernel_rfl) (by kernel_rfl) (fun _ _ _ h => h) (Or.inl ⟨by kernel_rfl, ?yz4⟩) (by assumption) ?rz4
        case yz4 =>
          intro w hSw
          try dsimp only at hSw
          first | (go_simp; done) | (go_simp; with_reducible rfl)
        try simp only [Act.put, List.setIfInBounds_toArray, List.set_cons_zero, List.set_cons_succ]
        clear hHeld
        obtain ⟨w4, h4⟩ : ∃ w4, w4 = wn.drew := ⟨_, rfl⟩
        have HX4 := Lib.hid (show w4.cell? ⟨w.heap.size, 0, none⟩ = some (.int .i64 k) ∧ w4.cell? ⟨w.heap.size, 1, none⟩ = some (.string x) ∧ w4.cell? ⟨w.heap.size, 2, none⟩ = some (.string t) ∧ w4.cell? ⟨w.heap.size, 3, none⟩ = some (.string l) ∧ w4.cell? ⟨w.heap.size + 1, 0, none⟩ = some (.int .i64 k2) ∧ w4.cell? ⟨w.heap.size + 1, 1, none⟩ = some (.string x2) ∧ w4.cell? ⟨w.heap.size + 1, 2, none⟩ = some (.string t2) ∧ w4.cell? ⟨w.heap.size + 1, 3, none⟩ = some (.string l2) ∧ w4.cell? ⟨w.heap.size + 2, 0, none⟩ = some (.int .i64 k3) ∧ w4.cell? ⟨w.heap.size + 2, 1, none⟩ = some (.string x3) ∧ w4.cell? ⟨w.heap.size + 2, 2, none⟩ = some (.string t3) ∧ w4.cell? ⟨w.heap.size + 2, 3, none⟩ = some (.string l3) ∧ Below w.heap.size w w4 by rw [h4]; exact ⟨c0, c1, c2, c3, c4, c5, c6, c7, c8, c9, c10, c11, cz.drew⟩)
        rw [← h4]
        clear h4 cz c0 c1 c2 c3 c4 c5 c6 c7 c8 c9 c10 c11 HX
        refine wpAnyH_inv (fun L a w' => ∃ (b1 b3 b5 b6 b7 b8 b9 b10 b11 : Bool) (s34 s36 s38 s7 s8 s9 : Value) (g7 g8 g9 : Nat), L = #[true, b1, true, b3, true, b5, b6, b7, b8, b9, b10, b11] ∧ a = ⟨#[.agg #[.int .i64 k, .string x, .string t, .string l], .agg #[.int .i64 k2, .string x2, .string t2, .string l2], .agg #[.int .i64 k3, .string x3, .string t3, .string l3], .pointer (some ⟨w.heap.size, 0, none⟩), .pointer (some ⟨w.heap.size + 1, 0, none⟩), .pointer (some ⟨w.heap.size + 1 + 1, 0, none⟩), .bool false, s7, s8, s9, undef, undef, undef, undef, undef, .bool true, .bool false, .bool false, .agg #[.int .i64 k, .string x, .string t, .string l], .bool true, .bool false, .bool false, .bool false, .agg #[.int .i64 k2, .string x2, .string t2, .string l2], .bool true, .bool false, .bool false, .bool false, .agg #[.int .i64 k3, .string x3, .string t3, .string l3], .bool true, .bool false, .bool false, undef, .agg #[.int .i64 k, .string x, .string t, .string l], s34, .agg #[.int .i64 k2, .string x2, .string t2, .string l2], s36, .agg #[.int .i64 k3, .string x3, .string t3, .string l3], s38, undef, undef, undef, undef, undef, undef, undef, undef, undef, undef, undef, undef, undef, undef, undef, undef, undef, undef, undef, undef, undef, undef, undef, undef, undef, undef, undef, undef, undef, undef, undef, undef, undef, undef, undef, undef, undef, undef, undef, undef, undef, undef, undef, undef, undef, undef, undef, undef, undef, undef, undef, undef, undef, undef, undef, undef, undef, undef, undef, undef, undef, undef, undef, undef, undef, undef, undef, undef, undef, undef, undef, undef, undef, undef, undef, undef, undef, undef, undef, undef, undef, undef, undef, undef, undef, undef, undef, undef, undef, undef, undef, undef, undef, undef, undef], []⟩ ∧
          (b1 = true → s34 = .agg #[.int .i64 K1, .string A1, .string B1, .string C1]) ∧ (b3 = true → s36 = .agg #[.int .i64 K2, .string A2, .string B2, .string C2]) ∧ (b5 = true → s38 = .agg #[.int .i64 K3, .string A3, .string B3, .string C3]) ∧
          (b6 = true → s7 = .pointer (some ⟨g7, 0, none⟩) ∧ w4.heap.size ≤ g7 ∧ Box w' g7 b9 (.int .i64 K1) (.string A1) (.string B1) (.string C1)) ∧ (b7 = true → s8 = .pointer (some ⟨g8, 0, none⟩) ∧ w4.heap.size ≤ g8 ∧ Box w' g8 b10 (.int .i64 K2) (.string A2) (.string B2) (.string C2)) ∧ (b8 = true → s9 = .pointer (some ⟨g9, 0, none⟩) ∧ w4.heap.size ≤ g9 ∧ Box w' g9 b11 (.int .i64 K3) (.string A3) (.string B3) (.string C3)) ∧
          (b9 = true → b6 = true) ∧ (b10 = true → b7 = true) ∧ (b11 = true → b8 = true) ∧ (b6 = true → b7 = true → g7 ≠ g8) ∧ (b6 = true → b8 = true → g7 ≠ g9) ∧ (b7 = true → b8 = true → g8 ≠ g9) ∧ Below w4.heap.size w4 w') ?hSi ?hstep ?hdone _ _ _ _ ?hcount ?hinit
        case hSi =>
          intro L a w' hI
          obtain ⟨b1, b3, b5, b6, b7, b8, b9, b10, b11, s34, s36, s38, s7, s8, s9, g7, g8, g9, rfl, rfl, e34, e36, e38, h7, h8, h9, i9, i10, i11, n78, n79, n89, zb⟩ := hI
          exact okept HX4.out zb
        case hcount => decide
        case hinit => exact ⟨false, false, false, false, false, false, false, false, false, undef, undef, undef, undef, undef, undef, 0, 0, 0, rfl, rfl, (fun h => by cases h), (fun h => by cases h), (fun h => by cases h), (fun h => by cases h), (fun h => by cases h), (fun h => by cases h), (fun h => by cases h), (fun h => by cases h), (fun h => by cases h), (fun h => by cases h), (fun h => by cases h), (fun h => by cases h), Below.refl _ _⟩
        case hstep =>
          intro L a w' hI i hi
          obtain ⟨b1, b3, b5, b6, b7, b8, b9, b10, b11, s34, s36, s38, s7, s8, s9, g7, g8, g9, rfl, rfl, e34, e36, e38, h7, h8, h9, i9, i10, i11, n78, n79, n89, zb⟩ := hI
          have hi12 : i < 12 := by
            obtain ⟨_, o, ho, _⟩ := mem_ready.1 hi
            rcases Nat.lt_or_ge i 12 with h | h
            · exact h
            · rw [Array.getElem?_eq_none (by exact h)] at ho; cases ho
          rcases (by omega : i = 0 ∨ i = 2 ∨ i = 4 ∨ i = 1 ∨ i = 3 ∨ i = 5 ∨ i = 6 ∨ i = 7 ∨ i = 8 ∨ i = 9 ∨ i = 10 ∨ i = 11) with rfl | rfl | rfl | rfl | rfl | rfl | rfl | rfl | rfl | rfl | rfl | rfl
          · exact absurd (show true = false from (mem_ready.1 hi).1) (by simp)
          · exact absurd (show true = false from (mem_ready.1 hi).1) (by simp)
          · exact absurd (show true = false from (mem_ready.1 hi).1) (by simp)
          · have HI := Lib.hid (show _ ∧ _ ∧ _ ∧ _ ∧ _ ∧ _ ∧ _ ∧ _ ∧ _ ∧ _ ∧ _ ∧ _ ∧ _ from ⟨e34, e36, e38, h7, h8, h9, i9, i10, i11, n78, n79, n89, zb⟩)
            clear e34 e36 e38 h7 h8 h9 i9 i10 i11 n78 n79 n89 zb
            refine inv_step rfl (fun K hK => ?_)
            go_simp
            refine (PR0.out _).mono ?_
            rintro e wc ⟨rfl, hbc⟩
            go_wp2_with fail
            obtain ⟨e34, e36, e38, h7, h8, h9, i9, i10, i11, n78, n79, n89, zb⟩ := HI.out
            refine hK.out _ _ ?_
            exact ⟨true, b3, b5, b6, b7, b8, b9, b10, b11, _, s36, s38, s7, s8, s9, g7, g8, g9, rfl, rfl, (fun _ => rfl), e36, e38, (fun h => ⟨(h7 h).1, (h7 h).2.1, box_below (h7 h).2.2 hbc⟩), (fun h => ⟨(h8 h).1, (h8 h).2.1, box_below (h8 h).2.2 hbc⟩), (fun h => ⟨(h9 h).1, (h9 h).2.1, box_below (h9 h).2.2 hbc⟩), i9, i10, i11, n78, n79, n89, (zb.trans (hbc.mono zb.size))⟩
          · have HI := Lib.hid (show _ ∧ _ ∧ _ ∧ _ ∧ _ ∧ _ ∧ _ ∧ _ ∧ _ ∧ _ ∧ _ ∧ _ ∧ _ from ⟨e34, e36, e38, h7, h8, h9, i9, i10, i11, n78, n79, n89, zb⟩)
            clear e34 e36 e38 h7 h8 h9 i9 i10 i11 n78 n79 n89 zb
            refine inv_step rfl (fun K hK => ?_)
            go_simp
            refine (PR1.out _).mono ?_
            rintro e wc ⟨rfl, hbc⟩
            go_wp2_with fail
            obtain ⟨e34, e36, e38, h7, h8, h9, i9, i10, i11, n78, n79, n89, zb⟩ := HI.out
            refine hK.out _ _ ?_
            exact ⟨b1, true, b5, b6, b7, b8, b9, b10, b11, s34, _, s38, s7, s8, s9, g7, g8, g9, rfl, rfl, e34, (fun _ => rfl), e38, (fun h => ⟨(h7 h).1, (h7 h).2.1, box_below (h7 h).2.2 hbc⟩), (fun h => ⟨(h8 h).1, (h8 h).2.1, box_below (h8 h).2.2 hbc⟩), (fun h => ⟨(h9 h).1, (h9 h).2.1, box_below (h9 h).2.2 hbc⟩), i9, i10, i11, n78, n79, n89, (zb.trans (hbc.mono zb.size))⟩
          · have HI := Lib.hid (show _ ∧ _ ∧ _ ∧ _ ∧ _ ∧ _ ∧ _ ∧ _ ∧ _ ∧ _ ∧ _ ∧ _ ∧ _ from ⟨e34, e36, e38, h7, h8, h9, i9, i10, i11, n78, n79, n89, zb⟩)
            clear e34 e36 e38 h7 h8 h9 i9 i10 i11 n78 n79 n89 zb
            refine inv_step rfl (fun K hK => ?_)
            go_simp
            refine (PR2.out _).mono ?_
            rintro e wc ⟨rfl, hbc⟩
            go_wp2_with fail
            obtain ⟨e34, e36, e38, h7, h8, h9, i9, i10, i11, n78, n79, n89, zb⟩ := HI.out
            refine hK.out _ _ ?_
            exact ⟨b1, b3, true, b6, b7, b8, b9, b10, b11, s34, s36, _, s7, s8, s9, g7, g8, g9, rfl, rfl, e34, e36, (fun _ => rfl), (fun h => ⟨(h7 h).1, (h7 h).2.1, box_below (h7 h).2.2 hbc⟩), (fun h => ⟨(h8 h).1, (h8 h).2.1, box_below (h8 h).2.2 hbc⟩), (fun h => ⟨(h9 h).1, (h9 h).2.1, box_below (h9 h).2.2 hbc⟩), i9, i10, i11, n78, n79, n89, (zb.trans (hbc.mono zb.size))⟩
          · have hs0 : b6 = false := (mem_ready.1 hi).1
            subst hs0
            have hsb : b9 = false := by cases b9 with
              | false => rfl
              | true => exact absurd (i9 rfl) (by simp)
            have hbc : Below w'.heap.size w' (w'.alloc (.cells #[.int .i64 0, .string ⟨#[]⟩, .string ⟨#[]⟩, .string ⟨#[]⟩] 23)) := (Below.refl _ _).alloc (Nat.le_refl _) _
            have HI := Lib.hid (show _ ∧ _ ∧ _ ∧ _ ∧ _ ∧ _ ∧ _ ∧ _ ∧ _ ∧ _ ∧ _ ∧ _ ∧ _ ∧ _ ∧ _ from ⟨e34, e36, e38, h7, h8, h9, i9, i10, i11, n78, n79, n89, zb, hsb, hbc⟩)
            clear e34 e36 e38 h7 h8 h9 i9 i10 i11 n78 n79 n89 zb hsb hbc
            refine inv_step rfl (fun K hK => ?_)
            go_simp
            obtain ⟨e34, e36, e38, h7, h8, h9, i9, i10, i11, n78, n79, n89, zb, hsb, hbc⟩ := HI.out
            refine hK.out _ _ ?_
            exact ⟨b1, b3, b5, true, b7, b8, b9, b10, b11, s34, s36, s38, _, s8, s9, w'.heap.size, g8, g9, rfl, rfl, e34, e36, e38, (fun _ => ⟨rfl, zb.size, by rw [hsb]; exact box_new ()⟩), (fun h => ⟨(h8 h).1, (h8 h).2.1, box_below (h8 h).2.2 hbc⟩), (fun h => ⟨(h9 h).1, (h9 h).2.1, box_below (h9 h).2.2 hbc⟩), (fun _ => rfl), i10, i11, (fun _ h => Nat.ne_of_gt (box_lt (h8 h).2.2)), (fun _ h => Nat.ne_of_gt (box_lt (h9 h).2.2)), n89, (zb.alloc zb.size _)⟩
          · have hs0 : b7 = false := (mem_ready.1 hi).1
            subst hs0
            have hsb : b10 = false := by cases b10 with
              | false => rfl
              | true => exact absurd (i10 rfl) (by simp)
            have hbc : Below w'.heap.size w' (w'.alloc (.cells #[.int .i64 0, .string ⟨#[]⟩, .string ⟨#[]⟩, .string ⟨#[]⟩] 23)) := (Below.refl _ _).alloc (Nat.le_refl _) _
            have HI := Lib.hid (show _ ∧ _ ∧ _ ∧ _ ∧ _ ∧ _ ∧ _ ∧ _ ∧ _ ∧ _ ∧ _ ∧ _ ∧ _ ∧ _ ∧ _ from ⟨e34, e36, e38, h7, h8, h9, i9, i10, i11, n78, n79, n89, zb, hsb, hbc⟩)
            clear e34 e36 e38 h7 h8 h9 i9 i10 i11 n78 n79 n89 zb hsb hbc
            refine inv_step rfl (fun K hK => ?_)
            go_simp
            obtain ⟨e34, e36, e38, h7, h8, h9, i9, i10, i11, n78, n79, n89, zb, hsb, hbc⟩ := HI.out
            refine hK.out _ _ ?_
            exact ⟨b1, b3, b5, b6, true, b8, b9, b10, b11, s34, s36, s38, s7, _, s9, g7, w'.heap.size, g9, rfl, rfl, e34, e36, e38, (fun h => ⟨(h7 h).1, (h7 h).2.1, box_below (h7 h).2.2 hbc⟩), (fun _ => ⟨rfl, zb.size, by rw [hsb]; exact box_new ()⟩), (fun h => ⟨(h9 h).1, (h9 h).2.1, box_below (h9 h).2.2 hbc⟩), i9, (fun _ => rfl), i11, (fun h _ => Nat.ne_of_lt (box_lt (h7 h).2.2)), n79, (fun _ h => Nat.ne_of_gt (box_lt (h9 h).2.2)), (zb.alloc zb.size _)⟩
          · have hs0 : b8 = false := (mem_ready.1 hi).1
            subst hs0
            have hsb : b11 = false := by cases b11 with
              | false => rfl
              | true => exact absurd (i11 rfl) (by simp)
            have hbc : Below w'.heap.size w' (w'.alloc (.cells #[.int .i64 0, .string ⟨#[]⟩, .string ⟨#[]⟩, .string ⟨#[]⟩] 23)) := (Below.refl _ _).alloc (Nat.le_refl _) _
            have HI := Lib.hid (show _ ∧ _ ∧ _ ∧ _ ∧ _ ∧ _ ∧ _ ∧ _ ∧ _ ∧ _ ∧ _ ∧ _ ∧ _ ∧ _ ∧ _ from ⟨e34, e36, e38, h7, h8, h9, i9, i10, i11, n78, n79, n89, zb, hsb, hbc⟩)
            clear e34 e36 e38 h7 h8 h9 i9 i10 i11 n78 n79 n89 zb hsb hbc
            refine inv_step rfl (fun K hK => ?_)
            go_simp
            obtain ⟨e34, e36, e38, h7, h8, h9, i9, i10, i11, n78, n79, n89, zb, hsb, hbc⟩ := HI.out
            refine hK.out _ _ ?_
            exact ⟨b1, b3, b5, b6, b7, true, b9, b10, b11, s34, s36, s38, s7, s8, _, g7, g8, w'.heap.size, rfl, rfl, e34, e36, e38, (fun h => ⟨(h7 h).1, (h7 h).2.1, box_below (h7 h).2.2 hbc⟩), (fun h => ⟨(h8 h).1, (h8 h).2.1, box_below (h8 h).2.2 hbc⟩), (fun _ => ⟨rfl, zb.size, by rw [hsb]; exact box_new ()⟩), i9, i10, (fun _ => rfl), n78, (fun h _ => Nat.ne_of_lt (box_lt (h7 h).2.2)), (fun h _ => Nat.ne_of_lt (box_lt (h8 h).2.2)), (zb.alloc zb.size _)⟩
          · have hr := (ready_facts (i := 9) rfl hi).2
            have ha1 : b6 = true := hr { on := 6, ground := Ground.data } (by simp) rfl
            have ha2 : b1 = true := hr { on := 1, ground := Ground.data } (by simp) rfl
            clear hr
            subst ha1
            subst ha2
            obtain rfl := e34 rfl
            obtain rfl := (h7 rfl).1
            obtain ⟨d0, d1, d2, d3, k0, k1, k2, k3, f0, f1, f2, f3, _⟩ := (h7 rfl).2.2
            have HI := Lib.hid (show _ ∧ _ ∧ _ ∧ _ ∧ _ ∧ _ ∧ _ ∧ _ ∧ _ ∧ _ ∧ _ ∧ _ ∧ _ from ⟨e34, e36, e38, h7, h8, h9, i9, i10, i11, n78, n79, n89, zb⟩)
            clear e34 e36 e38 h7 h8 h9 i9 i10 i11 n78 n79 n89 zb
            refine inv_step rfl (fun K hK => ?_)
            go_simp
            obtain ⟨e34, e36, e38, h7, h8, h9, i9, i10, i11, n78, n79, n89, zb⟩ := HI.out
            refine hK.out _ _ ?_
            exact ⟨true, b3, b5, true, b7, b8, true, b10, b11, _, s36, s38, _, s8, s9, g7, g8, g9, rfl, rfl, e34, e36, e38, (fun _ => ⟨rfl, (h7 rfl).2.1, box_store (h7 rfl).2.2⟩), (fun h => ⟨(h8 h).1, (h8 h).2.1, box_other (h8 h).2.2 (fun e => n78 rfl h e.symm)⟩), (fun h => ⟨(h9 h).1, (h9 h).2.1, box_other (h9 h).2.2 (fun e => n79 rfl h e.symm)⟩), (fun _ => rfl), i10, i11, n78, n79, n89, (below_store zb (h7 rfl).2.1)⟩
          · have hr := (ready_facts (i := 10) rfl hi).2
            have ha1 : b7 = true := hr { on := 7, ground := Ground.data } (by simp) rfl
            have ha2 : b3 = true := hr { on := 3, ground := Ground.data } (by simp) rfl
            clear hr
            subst ha1
            subst ha2
            obtain rfl := e36 rfl
            obtain rfl := (h8 rfl).1
            obtain ⟨d0, d1, d2, d3, k0, k1, k2, k3, f0, f1, f2, f3, _⟩ := (h8 rfl).2.2
            have HI := Lib.hid (show _ ∧ _ ∧ _ ∧ _ ∧ _ ∧ _ ∧ _ ∧ _ ∧ _ ∧ _ ∧ _ ∧ _ ∧ _ from ⟨e34, e36, e38, h7, h8, h9, i9, i10, i11, n78, n79, n89, zb⟩)
            clear e34 e36 e38 h7 h8 h9 i9 i10 i11 n78 n79 n89 zb
            refine inv_step rfl (fun K hK => ?_)
            go_simp
            obtain ⟨e34, e36, e38, h7, h8, h9, i9, i10, i11, n78, n79, n89, zb⟩ := HI.out
            refine hK.out _ _ ?_
            exact ⟨b1, true, b5, b6, true, b8, b9, true, b11, s34, _, s38, s7, _, s9, g7, g8, g9, rfl, rfl, e34, e36, e38, (fun h => ⟨(h7 h).1, (h7 h).2.1, box_other (h7 h).2.2 (n78 h rfl)⟩), (fun _ => ⟨rfl, (h8 rfl).2.1, box_store (h8 rfl).2.2⟩), (fun h => ⟨(h9 h).1, (h9 h).2.1, box_other (h9 h).2.2 (fun e => n89 rfl h e.symm)⟩), i9, (fun _ => rfl), i11, n78, n79, n89, (below_store zb (h8 rfl).2.1)⟩
          · have hr := (ready_facts (i := 11) rfl hi).2
            have ha1 : b8 = true := hr { on := 8, ground := Ground.data } (by simp) rfl
            have ha2 : b5 = true := hr { on := 5, ground := Ground.data } (by simp) rfl
            clear hr
            subst ha1
            subst ha2
            obtain rfl := e38 rfl
            obtain rfl := (h9 rfl).1
            obtain ⟨d0, d1, d2, d3, k0, k1, k2, k3, f0, f1, f2, f3, _⟩ := (h9 rfl).2.2
            have HI := Lib.hid (show _ ∧ _ ∧ _ ∧ _ ∧ _ ∧ _ ∧ _ ∧ _ ∧ _ ∧ _ ∧ _ ∧ _ ∧ _ from ⟨e34, e36, e38, h7, h8, h9, i9, i10, i11, n78, n79, n89, zb⟩)
            clear e34 e36 e38 h7 h8 h9 i9 i10 i11 n78 n79 n89 zb
            refine inv_step rfl (fun K hK => ?_)
            go_simp
            obtain ⟨e34, e36, e38, h7, h8, h9, i9, i10, i11, n78, n79, n89, zb⟩ := HI.out
            refine hK.out _ _ ?_
            exact ⟨b1, b3, true, b6, b7, true, b9, b10, true, s34, s36, _, s7, s8, _, g7, g8, g9, rfl, rfl, e34, e36, e38, (fun h => ⟨(h7 h).1, (h7 h).2.1, box_other (h7 h).2.2 (n79 h rfl)⟩), (fun h => ⟨(h8 h).1, (h8 h).2.1, box_other (h8 h).2.2 (n89 h rfl)⟩), (fun _ => ⟨rfl, (h9 rfl).2.1, box_store (h9 rfl).2.2⟩), i9, i10, (fun _ => rfl), n78, n79, n89, (below_store zb (h9 rfl).2.1)⟩
        case hdone =>
          intro L a w' hI hr
          obtain ⟨b1, b3, b5, b6, b7, b8, b9, b10, b11, s34, s36, s38, s7, s8, s9, g7, g8, g9, rfl, rfl, e34, e36, e38, h7, h8, h9, i9, i10, i11, n78, n79, n89, zb⟩ := hI
          have e1 : b1 = true := ready_nil (i := 1) hr rfl (fun e he hb => by
            simp at he
            rcases he with rfl
            all_goals first | rfl | exact absurd hb (by decide))
          subst e1
          have e6 : b6 = true := ready_nil (i := 6) hr rfl (fun e he hb => by simp at he)
          subst e6
          have e7 : b7 = true := ready_nil (i := 7) hr rfl (fun e he hb => by simp at he)
          subst e7
          have e8 : b8 = true := ready_nil (i := 8) hr rfl (fun e he hb => by simp at he)
          subst e8
          have e3 : b3 = true := ready_nil (i := 3) hr rfl (fun e he hb => by
            simp at he
            rcases he with rfl | rfl
            all_goals first | rfl | exact absurd hb (by decide))
          subst e3
          have e5 : b5 = true := ready_nil (i := 5) hr rfl (fun e he hb => by
            simp at he
            rcases he with rfl | rfl
            all_goals first | rfl | exact absurd hb (by decide))
          subst e5
          have e9 : b9 = true := ready_nil (i := 9) hr rfl (fun e he hb => by
            simp at he
            rcases he with rfl | rfl | rfl | rfl | rfl | rfl | rfl | rfl | rfl | rfl | rfl | rfl
            all_goals first | rfl | exact absurd hb (by decide))
          subst e9
          have e10 : b10 = true := ready_nil (i := 10) hr rfl (fun e he hb => by
            simp at he
            rcases he with rfl | rfl | rfl | rfl | rfl | rfl | rfl | rfl | rfl | rfl | rfl | rfl | rfl
            all_goals first | rfl | exact absurd hb (by decide))
          subst e10
          have e11 : b11 = true := ready_nil (i := 11) hr rfl (fun e he hb => by
            simp at he
            rcases he with rfl | rfl | rfl | rfl | rfl | rfl | rfl | rfl | rfl | rfl | rfl | rfl | rfl | rfl
            all_goals first | rfl | exact absurd hb (by decide))
          subst e11
          obtain rfl := e34 rfl
          obtain ⟨rfl, _, _, _, _, _, x00, x01, x02, x03, _, _, _, _, xd0⟩ := h7 rfl
          obtain ⟨rfl, rfl, rfl, rfl⟩ := xd0 rfl
          obtain rfl := e36 rfl
          obtain ⟨rfl, _, _, _, _, _, x10, x11, x12, x13, _, _, _, _, xd1⟩ := h8 rfl
          obtain ⟨rfl, rfl, rfl, rfl⟩ := xd1 rfl
          obtain rfl := e38 rfl
          obtain ⟨rfl, _, _, _, _, _, x20, x21, x22, x23, _, _, _, _, xd2⟩ := h9 rfl
          obtain ⟨rfl, rfl, rfl, rfl⟩ := xd2 rfl
          have cz : Below w.heap.size w w' := (okept HX4.out zb).2.2.2.2.2.2.2.2.2.2.2.2
          clear hr xd0 xd1 xd2 e34 e36 e38 h7 h8 h9 i9 i10 i11 n78 n79 n89 zb HX4
          have c0 := x00
          clear x00
          have c1 := x01
          clear x01
          have c2 := x02
          clear x02
          have c3 := x03
          clear x03
          have c4 := x10
          clear x10
          have c5 := x11
          clear x11
          have c6 := x12
          clear x12
          have c7 := x13
          clear x13
          have c8 := x20
          clear x20
          have c9 := x21
          clear x21
          have c10 := x22
          clear x22
          have c11 := x23
          clear x23
          go_wp2_with fail
          refine wp_region_held_drew (S := fun w' => w'.cell? ⟨g7, 0, none⟩ = some (.int .i64 K1) ∧ w'.cell? ⟨g7, 1, none⟩ = some (.string A1) ∧ w'.cell? ⟨g7, 2, none⟩ = some (.string B1) ∧ w'.cell? ⟨g7, 3, none⟩ = some (.string C1) ∧ w'.cell? ⟨g8, 0, none⟩ = some (.int .i64 K2) ∧ w'.cell? ⟨g8, 1, none⟩ = some (.string A2) ∧ w'.cell? ⟨g8, 2, none⟩ = some (.string B2) ∧ w'.cell? ⟨g8, 3, none⟩ = some (.string C2) ∧ w'.cell? ⟨g9, 0, none⟩ = some (.int .i64 K3) ∧ w'.cell? ⟨g9, 1, none⟩ = some (.string A3) ∧ w'.cell? ⟨g9, 2, none⟩ = some (.string B3) ∧ w'.cell? ⟨g9, 3, none⟩ = some (.string C3) ∧ Below w.heap.size w w') (by kernel_rfl) ?hSor10 (fun hHeld => ?_)
          case hSor10 => exact ⟨c0, c1, c2, c3, c4, c5, c6, c7, c8, c9, c10, c11, cz.drew⟩
          refine wpAnyH_take (i := 0) (oi := ⟨some 39, _, _, _, _, _⟩) (v := ?vor10) rfl (by kernel_rfl) (by kernel_rfl) (by kernel_rfl) (fun _ _ _ h => h) (Or.inl ⟨by kernel_rfl, ?yor10⟩) (by assumption) ?ror10
          case yor10 =>
            intro w hSw
            try dsimp only at hSw
            first | (go_simp; done) | (go_simp; with_reducible rfl)
          try simp only [Act.put, List.setIfInBounds_toArray, List.set_cons_zero, List.set_cons_succ]
          refine wpAnyH_take (i := 2) (oi := ⟨some 41, _, _, _, _, _⟩) (v := ?vor12) rfl (by kernel_rfl) (by kernel_rfl) (by kernel_rfl) (fun _ _ _ h => h) (Or.inl ⟨by kernel_rfl, ?yor12⟩) (by assumption) ?ror12
          case yor12 =>
            intro w hSw
            try dsimp only at hSw
            first | (go_simp; done) | (go_simp; with_reducible rfl)
          try simp only [Act.put, List.setIfInBounds_toArray, List.set_cons_zero, List.set_cons_succ]
          refine wpAnyH_take (i := 4) (oi := ⟨some 43, _, _, _, _, _⟩) (v := ?vor14) rfl (by kernel_rfl) (by kernel_rfl) (by kernel_rfl) (fun _ _ _ h => h) (Or.inl ⟨by kernel_rfl, ?yor14⟩) (by assumption) ?ror14
          case yor14 =>
            intro w hSw
            try dsimp only at hSw
            first | (go_simp; done) | (go_simp; with_reducible rfl)
          try simp only [Act.put, List.setIfInBounds_toArray, List.set_cons_zero, List.set_cons_succ]
          refine wpAnyH_ready (rs := [1]) (by kernel_rfl) (by simp) ?_
          refine AllReadyH.cons (i := 1) (o := ⟨some 40, _, _, _, _, _⟩) rfl (fun K hK => ?_) AllReadyH.nil
          go_simp
          go_at_call 12
          refine (RR0.out _).mono ?_
          rintro e wp ⟨rfl, hb⟩
          go_wp2_with fail
          refine hK.out _ _ ?_ (fun hHeld => ?_)
          · exact okept (by assumption) hb
          clear hK K
          try simp only [Act.put, List.setIfInBounds_toArray, List.set_cons_zero, List.set_cons_succ]
          refine wpAnyH_ready (rs := [3]) (by kernel_rfl) (by simp) ?_
          refine AllReadyH.cons (i := 3) (o := ⟨some 42, _, _, _, _, _⟩) rfl (fun K hK => ?_) AllReadyH.nil
          go_simp
          go_at_call 12
          refine (RR1.out _).mono ?_
          rintro e wp ⟨rfl, hb⟩
          go_wp2_with fail
          refine hK.out _ _ ?_ (fun hHeld => ?_)
          · exact okept (by assumption) hb
          clear hK K
          try simp only [Act.put, List.setIfInBounds_toArray, List.set_cons_zero, List.set_cons_succ]
          refine wpAnyH_ready (rs := [5]) (by kernel_rfl) (by simp) ?_
          refine AllReadyH.cons (i := 5) (o := ⟨some 44, _, _, _, _, _⟩) rfl (fun K hK => ?_) AllReadyH.nil
          go_simp
          go_at_call 12
          refine (RR2.out _).mono ?_
          rintro e wp ⟨rfl, hb⟩
          go_wp2_with fail
          refine hK.out _ _ ?_ (fun hHeld => ?_)
          · exact okept (by assumption) hb
          clear hK K
          try simp only [Act.put, List.setIfInBounds_toArray, List.set_cons_zero, List.set_cons_succ]
          refine wpAnyH_take (i := 6) (oi := ⟨some 10, _, _, _, _, _⟩) (v := ?vor16) rfl (by kernel_rfl) (by kernel_rfl) (by kernel_rfl) (fun _ _ _ h => h) (Or.inl ⟨by kernel_rfl, ?yor16⟩) (by assumption) ?ror16
          case yor16 =>
            intro w hSw
            try dsimp only at hSw
            first | (go_simp; done) | (go_simp; with_reducible rfl)
          try simp only [Act.put, List.setIfInBounds_toArray, List.set_cons_zero, List.set_cons_succ]
          refine wpAnyH_take (i := 7) (oi := ⟨some 11, _, _, _, _, _⟩) (v := ?vor17) rfl (by kernel_rfl) (by kernel_rfl) (by kernel_rfl) (fun _ _ _ h => h) (Or.inl ⟨by kernel_rfl, ?yor17⟩) (by assumption) ?ror17
          case yor17 =>
            intro w hSw
            try dsimp only at hSw
            first | (go_simp; done) | (go_simp; with_reducible rfl)
          try simp only [Act.put, List.setIfInBounds_toArray, List.set_cons_zero, List.set_cons_succ]
          refine wpAnyH_take (i := 8) (oi := ⟨some 12, _, _, _, _, _⟩) (v := ?vor18) rfl (by kernel_rfl) (by kernel_rfl) (by kernel_rfl) (fun _ _ _ h => h) (Or.inl ⟨by kernel_rfl, ?yor18⟩) (by assumption) ?ror18
          case yor18 =>
            intro w hSw
            try dsimp only at hSw
            first | (go_simp; done) | (go_simp; with_reducible rfl)
          try simp only [Act.put, List.setIfInBounds_toArray, List.set_cons_zero, List.set_cons_succ]
          refine wpAnyH_done (by kernel_rfl) ?_ _
          have HX := Lib.hid hHeld
          clear hHeld cz c0 c1 c2 c3 c4 c5 c6 c7 c8 c9 c10 c11 PR0 PR1 PR2 RR0 RR1 RR2
          have QG0 : ∀ w, (Go.eqGuard BinOp.eql 23 (.tmp 71) (.tmp 72) (.agg #[.int .i64 K1, .string A1, .string B1, .string C1]) (.agg #[.int .i64 K2, .string A2, .string B2, .string C2])).run Tryd.prog w = .ok () w := fun w => by kernel_rfl
          have QG1 : ∀ w, (Go.eqGuard BinOp.eql 23 (.tmp 84) (.tmp 85) (.agg #[.int .i64 K1, .string A1, .string B1, .string C1]) (.agg #[.int .i64 K2, .string A2, .string B2, .string C2])).run Tryd.prog w = .ok () w := fun w => by kernel_rfl
          rcases hov with ho | ho | ho
          · subst ho
            rw [show (-(-1 : Int)) = 1 from by decide] at O21 L21
            rw [show decide ((-1 : Int) = -1) = true from by decide] at L12
            rw [show decide ((1 : Int) = -1) = false from by decide] at L21
            rw [show decide ((-1 : Int) = 0) = false from by decide] at QE SM
            have hwn : IntKind.i64.wrap 1 = 1 := by decide
            rw [Bool.false_and] at SM
            obtain ⟨c0, c1, c2, c3, c4, c5, c6, c7, c8, c9, c10, c11, cz⟩ := HX.out
            go_wp2_with fail
            refine (O12.out _).mono ?_
            rintro e wn ⟨rfl, hbn⟩
            replace HX := Lib.hid (okept HX.out hbn)
            clear hbn cz c0 c1 c2 c3 c4 c5 c6 c7 c8 c9 c10 c11
            obtain ⟨c0, c1, c2, c3, c4, c5, c6, c7, c8, c9, c10, c11, cz⟩ := HX.out
            go_wp2_with fail
            refine (L12.out _).mono ?_
            rintro e wn ⟨rfl, hbn⟩
            replace HX := Lib.hid (okept HX.out hbn)
            clear hbn cz c0 c1 c2 c3 c4 c5 c6 c7 c8 c9 c10 c11
            obtain ⟨c0, c1, c2, c3, c4, c5, c6, c7, c8, c9, c10, c11, cz⟩ := HX.out
            go_wp2_with fail
            refine wp_region_held_drew (S := fun w' => w'.cell? ⟨g7, 0, none⟩ = some (.int .i64 K1) ∧ w'.cell? ⟨g7, 1, none⟩ = some (.string A1) ∧ w'.cell? ⟨g7, 2, none⟩ = some (.string B1) ∧ w'.cell? ⟨g7, 3, none⟩ = some (.string C1) ∧ w'.cell? ⟨g8, 0, none⟩ = some (.int .i64 K2) ∧ w'.cell? ⟨g8, 1, none⟩ = some (.string A2) ∧ w'.cell? ⟨g8, 2, none⟩ = some (.string B2) ∧ w'.cell? ⟨g8, 3, none⟩ = some (.string C2) ∧ w'.cell? ⟨g9, 0, none⟩ = some (.int .i64 K3) ∧ w'.cell? ⟨g9, 1, none⟩ = some (.string A3) ∧ w'.cell? ⟨g9, 2, none⟩ = some (.string B3) ∧ w'.cell? ⟨g9, 3, none⟩ = some (.string C3) ∧ Below w.heap.size w w') (by kernel_rfl) ?hSor20 (fun hHeld => ?_)
            case hSor20 => exact ⟨c0, c1, c2, c3, c4, c5, c6, c7, c8, c9, c10, c11, cz.drew⟩
            refine wpAnyH_take (i := 0) (oi := ⟨some 56, _, _, _, _, _⟩) (v := ?vor20) rfl (by kernel_rfl) (by kernel_rfl) (by kernel_rfl) (fun _ _ _ h => h) (Or.inl ⟨by kernel_rfl, ?yor20⟩) (by assumption) ?ror20
            case yor20 =>
              intro w hSw
              try dsimp only at hSw
              first | (go_simp; done) | (go_simp; with_reducible rfl)
            try simp only [Act.put, List.setIfInBounds_toArray, List.set_cons_zero, List.set_cons_succ]
            refine wpAnyH_take (i := 1) (oi := ⟨some 57, _, _, _, _, _⟩) (v := ?vor21) rfl (by kernel_rfl) (by kernel_rfl) (by kernel_rfl) (fun _ _ _ h => h) (Or.inl ⟨by kernel_rfl, ?yor21⟩) (by assumption) ?ror21
            case yor21 =>
              intro w hSw
              try dsimp only at hSw
              first | (go_simp; done) | (go_simp; with_reducible rfl)
            try simp only [Act.put, List.setIfInBounds_toArray, List.set_cons_zero, List.set_cons_succ]
            refine wpAnyH_take (i := 2) (oi := ⟨some 58, _, _, _, _, _⟩) (v := ?vor22) rfl (by kernel_rfl) (by kernel_rfl) (by kernel_rfl) (fun _ _ _ h => h) (Or.inl ⟨by kernel_rfl, ?yor22⟩) (by assumption) ?ror22
            case yor22 =>
              intro w hSw
              try dsimp only at hSw
              first | (go_simp; done) | (go_simp; with_reducible rfl)
            try simp only [Act.put, List.setIfInBounds_toArray, List.set_cons_zero, List.set_cons_succ]
            refine wpAnyH_take (i := 3) (oi := ⟨some 59, _, _, _, _, _⟩) (v := ?vor23) rfl (by kernel_rfl) (by kernel_rfl) (by kernel_rfl) (fun _ _ _ h => h) (Or.inl ⟨by kernel_rfl, ?yor23⟩) (by assumption) ?ror23
            case yor23 =>
              intro w hSw
              try dsimp only at hSw
              first | (go_simp; done) | (go_simp; with_reducible rfl)
            try simp only [Act.put, List.setIfInBounds_toArray, List.set_cons_zero, List.set_cons_succ]
            refine wpAnyH_take (i := 4) (oi := ⟨some 60, _, _, _, _, _⟩) (v := ?vor24) rfl (by kernel_rfl) (by kernel_rfl) (by kernel_rfl) (fun _ _ _ h => h) (Or.inl ⟨by kernel_rfl, ?yor24⟩) (by assumption) ?ror24
            case yor24 =>
              intro w hSw
              try dsimp only at hSw
              first | (go_simp; done) | (go_simp; with_reducible rfl)
            try simp only [Act.put, List.setIfInBounds_toArray, List.set_cons_zero, List.set_cons_succ]
            refine wpAnyH_take (i := 5) (oi := ⟨some 61, _, _, _, _, _⟩) (v := ?vor25) rfl (by kernel_rfl) (by kernel_rfl) (by kernel_rfl) (fun _ _ _ h => h) (Or.inl ⟨by kernel_rfl, ?yor25⟩) (by assumption) ?ror25
            case yor25 =>
              intro w hSw
              try dsimp only at hSw
              first | (go_simp; done) | (go_simp; with_reducible rfl)
            try simp only [Act.put, List.setIfInBounds_toArray, List.set_cons_zero, List.set_cons_succ]
            refine wpAnyH_take (i := 7) (oi := ⟨some 63, _, _, _, _, _⟩) (v := ?vor27) rfl (by kernel_rfl) (by kernel_rfl) (by kernel_rfl) (fun _ _ _ h => h) (Or.inl ⟨by kernel_rfl, ?yor27⟩) (by assumption) ?ror27
            case yor27 =>
              intro w hSw
              try dsimp only at hSw
              first | (go_simp; done) | (go_simp; with_reducible rfl)
            try simp only [Act.put, List.setIfInBounds_toArray, List.set_cons_zero, List.set_cons_succ]
            refine wpAnyH_take (i := 8) (oi := ⟨some 64, _, _, _, _, _⟩) (v := ?vor28) rfl (by kernel_rfl) (by kernel_rfl) (by kernel_rfl) (fun _ _ _ h => h) (Or.inl ⟨by kernel_rfl, ?yor28⟩) (by assumption) ?ror28
            case yor28 =>
              intro w hSw
              try dsimp only at hSw
              first | (go_simp; done) | (go_simp; with_reducible rfl)
            try simp only [Act.put, List.setIfInBounds_toArray, List.set_cons_zero, List.set_cons_succ]
            refine wpAnyH_ready (rs := [6]) (by kernel_rfl) (by simp) ?_
            refine AllReadyH.cons (i := 6) (o := ⟨some 62, _, _, _, _, _⟩) rfl (fun K hK => ?_) AllReadyH.nil
            go_simp
            go_at_call 29
            refine (O21.out _).mono ?_
            rintro e wp ⟨rfl, hb⟩
            go_wp2_with fail
            refine hK.out _ _ ?_ (fun hHeld => ?_)
            · exact okept (by assumption) hb
            clear hK K
            try simp only [Act.put, List.setIfInBounds_toArray, List.set_cons_zero, List.set_cons_succ]
            refine wpAnyH_take (i := 9) (oi := ⟨some 65, _, _, _, _, _⟩) (v := ?vor29) rfl (by kernel_rfl) (by kernel_rfl) (by kernel_rfl) (fun _ _ _ h => h) (Or.inl ⟨by kernel_rfl, ?yor29⟩) (by assumption) ?ror29
            case yor29 =>
              intro w hSw
              try dsimp only at hSw
              first | (go_simp; done) | (go_simp; with_reducible rfl)
            try simp only [Act.put, List.setIfInBounds_toArray, List.set_cons_zero, List.set_cons_succ]
            refine wpAnyH_take (i := 10) (oi := ⟨some 66, _, _, _, _, _⟩) (v := ?vor210) rfl (by kernel_rfl) (by kernel_rfl) (by kernel_rfl) (fun _ _ _ h => h) (Or.inl ⟨by kernel_rfl, ?yor210⟩) (by assumption) ?ror210
            case yor210 =>
              intro w hSw
              try dsimp only at hSw
              first | (go_simp; done) | (go_simp; with_reducible rfl)
            try simp only [Act.put, List.setIfInBounds_toArray, List.set_cons_zero, List.set_cons_succ]
            refine wpAnyH_take (i := 11) (oi := ⟨some 67, _, _, _, _, _⟩) (v := ?vor211) rfl (by kernel_rfl) (by kernel_rfl) (by kernel_rfl) (fun _ _ _ h => h) (Or.inl ⟨by kernel_rfl, ?yor211⟩) (by assumption) ?ror211
            case yor211 =>
              intro w hSw
              try dsimp only at hSw
              first | (go_simp; done) | (go_simp; with_reducible rfl)
            try simp only [Act.put, List.setIfInBounds_toArray, List.set_cons_zero, List.set_cons_succ]
            refine wpAnyH_take (i := 12) (oi := ⟨some 68, _, _, _, _, _⟩) (v := ?vor212) rfl (by kernel_rfl) (by kernel_rfl) (by kernel_rfl) (fun _ _ _ h => h) (Or.inl ⟨by kernel_rfl, ?yor212⟩) (by assumption) ?ror212
            case yor212 =>
              intro w hSw
              try dsimp only at hSw
              first | (go_simp; done) | (go_simp; with_reducible rfl)
            try simp only [Act.put, List.setIfInBounds_toArray, List.set_cons_zero, List.set_cons_succ]
            refine wpAnyH_take (i := 13) (oi := ⟨some 69, _, _, _, _, _⟩) (v := ?vor213) rfl (by kernel_rfl) (by kernel_rfl) (by kernel_rfl) (fun _ _ _ h => h) (Or.inl ⟨by kernel_rfl, ?yor213⟩) (by assumption) ?ror213
            case yor213 =>
              intro w hSw
              try dsimp only at hSw
              first | (go_simp; done) | (go_simp; with_reducible rfl)
            try simp only [Act.put, List.setIfInBounds_toArray, List.set_cons_zero, List.set_cons_succ]
            refine wpAnyH_take (i := 15) (oi := ⟨some 71, _, _, _, _, _⟩) (v := ?vor215) rfl (by kernel_rfl) (by kernel_rfl) (by kernel_rfl) (fun _ _ _ h => h) (Or.inl ⟨by kernel_rfl, ?yor215⟩) (by assumption) ?ror215
            case yor215 =>
              intro w hSw
              try dsimp only at hSw
              first | (go_simp; done) | (go_simp; with_reducible rfl)
            try simp only [Act.put, List.setIfInBounds_toArray, List.set_cons_zero, List.set_cons_succ]
            refine wpAnyH_take (i := 16) (oi := ⟨some 72, _, _, _, _, _⟩) (v := ?vor216) rfl (by kernel_rfl) (by kernel_rfl) (by kernel_rfl) (fun _ _ _ h => h) (Or.inl ⟨by kernel_rfl, ?yor216⟩) (by assumption) ?ror216
            case yor216 =>
              intro w hSw
              try dsimp only at hSw
              first | (go_simp; done) | (go_simp; with_reducible rfl)
            try simp only [Act.put, List.setIfInBounds_toArray, List.set_cons_zero, List.set_cons_succ]
            refine wpAnyH_take (i := 17) (oi := ⟨some 73, _, _, _, _, _⟩) (v := ?vor217) rfl (by kernel_rfl) (by kernel_rfl) (by kernel_rfl) (fun _ _ _ h => h) (Or.inl ⟨by kernel_rfl, ?yor217⟩) (by assumption) ?ror217
            case yor217 =>
              intro w hSw
              try dsimp only at hSw
              first | (go_simp; done) | (go_simp; with_reducible rfl)
            try simp only [Act.put, List.setIfInBounds_toArray, List.set_cons_zero, List.set_cons_succ]
            refine wpAnyH_ready (rs := [14]) (by kernel_rfl) (by simp) ?_
            refine AllReadyH.cons (i := 14) (o := ⟨some 70, _, _, _, _, _⟩) rfl (fun K hK => ?_) AllReadyH.nil
            go_simp
            go_at_call 27
            refine (SM.out _).mono ?_
            rintro e wp ⟨rfl, hb⟩
            go_wp2_with fail
            refine hK.out _ _ ?_ (fun hHeld => ?_)
            · exact okept (by assumption) hb
            clear hK K
            try simp only [Act.put, List.setIfInBounds_toArray, List.set_cons_zero, List.set_cons_succ]
            refine wpAnyH_take (i := 18) (oi := ⟨some 74, _, _, _, _, _⟩) (v := ?vor218) rfl (by kernel_rfl) (by kernel_rfl) (by kernel_rfl) (fun _ _ _ h => h) (Or.inl ⟨by kernel_rfl, ?yor218⟩) (by assumption) ?ror218
            case yor218 =>
              intro w hSw
              try dsimp only at hSw
              first | (go_simp; done) | (go_simp; with_reducible rfl)
            try simp only [Act.put, List.setIfInBounds_toArray, List.set_cons_zero, List.set_cons_succ]
            refine wpAnyH_take (i := 19) (oi := ⟨some 75, _, _, _, _, _⟩) (v := undef) rfl (by kernel_rfl) (by kernel_rfl) (by kernel_rfl) (fun _ _ _ h => h) (Or.inr ⟨by kernel_rfl, rfl⟩) (by assumption) ?ror219
            try simp only [Act.put, List.setIfInBounds_toArray, List.set_cons_zero, List.set_cons_succ]
            refine wpAnyH_take (i := 20) (oi := ⟨some 76, _, _, _, _, _⟩) (v := undef) rfl (by kernel_rfl) (by kernel_rfl) (by kernel_rfl) (fun _ _ _ h => h) (Or.inr ⟨by kernel_rfl, rfl⟩) (by assumption) ?ror220
            try simp only [Act.put, List.setIfInBounds_toArray, List.set_cons_zero, List.set_cons_succ]
            refine wpAnyH_take (i := 21) (oi := ⟨some 77, _, _, _, _, _⟩) (v := undef) rfl (by kernel_rfl) (by kernel_rfl) (by kernel_rfl) (fun _ _ _ h => h) (Or.inr ⟨by kernel_rfl, rfl⟩) (by assumption) ?ror221
            try simp only [Act.put, List.setIfInBounds_toArray, List.set_cons_zero, List.set_cons_succ]
            refine wpAnyH_take (i := 22) (oi := ⟨some 78, _, _, _, _, _⟩) (v := ?vor222) rfl (by kernel_rfl) (by kernel_rfl) (by kernel_rfl) (fun _ _ _ h => h) (Or.inl ⟨by kernel_rfl, ?yor222⟩) (by assumption) ?ror222
            case yor222 =>
              intro w hSw
              try dsimp only at hSw
              first | (go_simp; done) | (go_simp; with_reducible rfl)
            try simp only [Act.put, List.setIfInBounds_toArray, List.set_cons_zero, List.set_cons_succ]
            refine wpAnyH_take (i := 23) (oi := ⟨some 79, _, _, _, _, _⟩) (v := ?vor223) rfl (by kernel_rfl) (by kernel_rfl) (by kernel_rfl) (fun _ _ _ h => h) (Or.inl ⟨by kernel_rfl, ?yor223⟩) (by assumption) ?ror223
            case yor223 =>
              intro w hSw
              try dsimp only at hSw
              first | (go_simp; done) | (go_simp; with_reducible rfl)
            try simp only [Act.put, List.setIfInBounds_toArray, List.set_cons_zero, List.set_cons_succ]
            refine wpAnyH_take (i := 24) (oi := ⟨some 80, _, _, _, _, _⟩) (v := ?vor224) rfl (by kernel_rfl) (by kernel_rfl) (by kernel_rfl) (fun _ _ _ h => h) (Or.inl ⟨by kernel_rfl, ?yor224⟩) (by assumption) ?ror224
            case yor224 =>
              intro w hSw
              try dsimp only at hSw
              first | (go_simp; done) | (go_simp; with_reducible rfl)
            try simp only [Act.put, List.setIfInBounds_toArray, List.set_cons_zero, List.set_cons_succ]
            refine wpAnyH_take (i := 25) (oi := ⟨some 81, _, _, _, _, _⟩) (v := ?vor225) rfl (by kernel_rfl) (by kernel_rfl) (by kernel_rfl) (fun _ _ _ h => h) (Or.inl ⟨by kernel_rfl, ?yor225⟩) (by assumption) ?ror225
            case yor225 =>
              intro w hSw
              try dsimp only at hSw
              first | (go_simp; done) | (go_simp; with_reducible rfl)
            try simp only [Act.put, List.setIfInBounds_toArray, List.set_cons_zero, List.set_cons_succ]
            refine wpAnyH_take (i := 26) (oi := ⟨some 82, _, _, _, _, _⟩) (v := ?vor226) rfl (by kernel_rfl) (by kernel_rfl) (by kernel_rfl) (fun _ _ _ h => h) (Or.inl ⟨by kernel_rfl, ?yor226⟩) (by assumption) ?ror226
            case yor226 =>
              intro w hSw
              try dsimp only at hSw
              first | (go_simp; done) | (go_simp; with_reducible rfl)
            try simp only [Act.put, List.setIfInBounds_toArray, List.set_cons_zero, List.set_cons_succ]
            refine wpAnyH_take (i := 27) (oi := ⟨some 83, _, _, _, _, _⟩) (v := ?vor227) rfl (by kernel_rfl) (by kernel_rfl) (by kernel_rfl) (fun _ _ _ h => h) (Or.inl ⟨by kernel_rfl, ?yor227⟩) (by assumption) ?ror227
            case yor227 =>
              intro w hSw
              try dsimp only at hSw
              first | (go_simp; done) | (go_simp; with_reducible rfl)
            try simp only [Act.put, List.setIfInBounds_toArray, List.set_cons_zero, List.set_cons_succ]
            refine wpAnyH_take (i := 28) (oi := ⟨some 84, _, _, _, _, _⟩) (v := ?vor228) rfl (by kernel_rfl) (by kernel_rfl) (by kernel_rfl) (fun _ _ _ h => h) (Or.inl ⟨by kernel_rfl, ?yor228⟩) (by assumption) ?ror228
            case yor228 =>
              intro w hSw
              try dsimp only at hSw
              first | (go_simp; done) | (go_simp; with_reducible rfl)
            try simp only [Act.put, List.setIfInBounds_toArray, List.set_cons_zero, List.set_cons_succ]
            refine wpAnyH_take (i := 29) (oi := ⟨some 85, _, _, _, _, _⟩) (v := ?vor229) rfl (by kernel_rfl) (by kernel_rfl) (by kernel_rfl) (fun _ _ _ h => h) (Or.inl ⟨by kernel_rfl, ?yor229⟩) (by assumption) ?ror229
            case yor229 =>
              intro w hSw
              try dsimp only at hSw
              first | (go_simp; done) | (go_simp; with_reducible rfl)
            try simp only [Act.put, List.setIfInBounds_toArray, List.set_cons_zero, List.set_cons_succ]
            refine wpAnyH_take (i := 30) (oi := ⟨some 86, _, _, _, _, _⟩) (v := ?vor230) rfl (by kernel_rfl) (by kernel_rfl) (by kernel_rfl) (fun _ _ _ h => h) (Or.inl ⟨by kernel_rfl, ?yor230⟩) (by assumption) ?ror230
            case yor230 =>
              intro w hSw
              try dsimp only at hSw
              first | (go_simp; done) | (go_simp; with_reducible rfl)
            try simp only [Act.put, List.setIfInBounds_toArray, List.set_cons_zero, List.set_cons_succ]
            refine wpAnyH_take (i := 31) (oi := ⟨some 87, _, _, _, _, _⟩) (v := ?vor231) rfl (by kernel_rfl) (by kernel_rfl) (by kernel_rfl) (fun _ _ _ h => h) (Or.inl ⟨by kernel_rfl, ?yor231⟩) (by assumption) ?ror231
            case yor231 =>
              intro w hSw
              try dsimp only at hSw
              first | (go_simp; done) | (go_simp; with_reducible rfl)
            try simp only [Act.put, List.setIfInBounds_toArray, List.set_cons_zero, List.set_cons_succ]
            refine wpAnyH_take (i := 32) (oi := ⟨some 88, _, _, _, _, _⟩) (v := ?vor232) rfl (by kernel_rfl) (by kernel_rfl) (by kernel_rfl) (fun _ _ _ h => h) (Or.inl ⟨by kernel_rfl, ?yor232⟩) (by assumption) ?ror232
            case yor232 =>
              intro w hSw
              try dsimp only at hSw
              first | (go_simp; done) | (go_simp; with_reducible rfl)
            try simp only [Act.put, List.setIfInBounds_toArray, List.set_cons_zero, List.set_cons_succ]
            refine wpAnyH_done (by kernel_rfl) ?_ _
            replace HX := Lib.hid hHeld
            clear hHeld cz c0 c1 c2 c3 c4 c5 c6 c7 c8 c9 c10 c11
            by_cases ho2 : o2 ≤ 0
            · have ho3 := HTR.out (by omega) ho2
              have ho3' : ¬ 0 < o3 := by omega
              obtain ⟨c0, c1, c2, c3, c4, c5, c6, c7, c8, c9, c10, c11, cz⟩ := HX.out
              go_wp2_with fail
              refine (O23.out _).mono ?_
              rintro e wn ⟨rfl, hbn⟩
              replace HX := Lib.hid (okept HX.out hbn)
              clear hbn cz c0 c1 c2 c3 c4 c5 c6 c7 c8 c9 c10 c11
              obtain ⟨c0, c1, c2, c3, c4, c5, c6, c7, c8, c9, c10, c11, cz⟩ := HX.out
              go_wp2_with fail
              refine (O13.out _).mono ?_
              rintro e wn ⟨rfl, hbn⟩
              replace HX := Lib.hid (okept HX.out hbn)
              clear hbn cz c0 c1 c2 c3 c4 c5 c6 c7 c8 c9 c10 c11
              by_cases k13 : K1 = 3
              · have q1 : (K1 == 3) = true := by rw [k13]; rfl
                clear k13
                obtain ⟨c0, c1, c2, c3, c4, c5, c6, c7, c8, c9, c10, c11, cz⟩ := HX.out
                go_wp2_with fail
                go_ret
                exact ⟨rfl, cz⟩
              · have q1 : (K1 == 3) = false := beq_eq_false_iff_ne.mpr k13
                by_cases k23 : K2 = 3
                · have q2 : (K2 == 3) = true := by rw [k23]; rfl
                  clear k13 k23
                  obtain ⟨c0, c1, c2, c3, c4, c5, c6, c7, c8, c9, c10, c11, cz⟩ := HX.out
                  go_wp2_with fail
                  go_ret
                  exact ⟨rfl, cz⟩
                · have q2 : (K2 == 3) = false := beq_eq_false_iff_ne.mpr k23
                  have kk1 := HK.out
                  have kk2 := HK2.out
                  rw [HQ.out (by omega) (by omega)] at RQ
                  rw [HE1.out (by omega)] at EQ11
                  obtain ⟨ev0, ev1⟩ := HQV.out
                  have hwr : IntKind.i64.wrap eV = eV := IntWalk.i64_in _ (by omega)
                  obtain ⟨c0, c1, c2, c3, c4, c5, c6, c7, c8, c9, c10, c11, cz⟩ := HX.out
                  go_wp2_with fail
                  refine wp_region_held_drew (S := fun w' => w'.cell? ⟨g7, 0, none⟩ = some (.int .i64 K1) ∧ w'.cell? ⟨g7, 1, none⟩ = some (.string A1) ∧ w'.cell? ⟨g7, 2, none⟩ = some (.string B1) ∧ w'.cell? ⟨g7, 3, none⟩ = some (.string C1) ∧ w'.cell? ⟨g8, 0, none⟩ = some (.int .i64 K2) ∧ w'.cell? ⟨g8, 1, none⟩ = some (.string A2) ∧ w'.cell? ⟨g8, 2, none⟩ = some (.string B2) ∧ w'.cell? ⟨g8, 3, none⟩ = some (.string C2) ∧ w'.cell? ⟨g9, 0, none⟩ = some (.int .i64 K3) ∧ w'.cell? ⟨g9, 1, none⟩ = some (.string A3) ∧ w'.cell? ⟨g9, 2, none⟩ = some (.string B3) ∧ w'.cell? ⟨g9, 3, none⟩ = some (.string C3) ∧ Below w.heap.size w w') (by kernel_rfl) ?hSor30 (fun hHeld => ?_)
                  case hSor30 => exact ⟨c0, c1, c2, c3, c4, c5, c6, c7, c8, c9, c10, c11, cz.drew⟩
                  refine wpAnyH_take (i := 0) (oi := ⟨some 111, _, _, _, _, _⟩) (v := ?vor30) rfl (by kernel_rfl) (by kernel_rfl) (by kernel_rfl) (fun _ _ _ h => h) (Or.inl ⟨by kernel_rfl, ?yor30⟩) (by assumption) ?ror30
                  case yor30 =>
                    intro w hSw
                    try dsimp only at hSw
                    first | (go_simp; done) | (go_simp; with_reducible rfl)
                  try simp only [Act.put, List.setIfInBounds_toArray, List.set_cons_zero, List.set_cons_succ]
                  refine wpAnyH_take (i := 1) (oi := ⟨some 112, _, _, _, _, _⟩) (v := ?vor31) rfl (by kernel_rfl) (by kernel_rfl) (by kernel_rfl) (fun _ _ _ h => h) (Or.inl ⟨by kernel_rfl, ?yor31⟩) (by assumption) ?ror31
                  case yor31 =>
                    intro w hSw
                    try dsimp only at hSw
                    first | (go_simp; done) | (go_simp; with_reducible rfl)
                  try simp only [Act.put, List.setIfInBounds_toArray, List.set_cons_zero, List.set_cons_succ]
                  refine wpAnyH_take (i := 4) (oi := ⟨some 115, _, _, _, _, _⟩) (v := ?vor34) rfl (by kernel_rfl) (by kernel_rfl) (by kernel_rfl) (fun _ _ _ h => h) (Or.inl ⟨by kernel_rfl, ?yor34⟩) (by assumption) ?ror34
                  case yor34 =>
                    intro w hSw
                    try dsimp only at hSw
                    first | (go_simp; done) | (go_simp; with_reducible rfl)
                  try simp only [Act.put, List.setIfInBounds_toArray, List.set_cons_zero, List.set_cons_succ]
                  refine wpAnyH_take (i := 5) (oi := ⟨some 116, _, _, _, _, _⟩) (v := ?vor35) rfl (by kernel_rfl) (by kernel_rfl) (by kernel_rfl) (fun _ _ _ h => h) (Or.inl ⟨by kernel_rfl, ?yor35⟩) (by assumption) ?ror35
                  case yor35 =>
                    intro w hSw
                    try dsimp only at hSw
                    first | (go_simp; done) | (go_simp; with_reducible rfl)
                  try simp only [Act.put, List.setIfInBounds_toArray, List.set_cons_zero, List.set_cons_succ]
                  refine wpAnyH_ready (rs := [2]) (by kernel_rfl) (by simp) ?_
                  refine AllReadyH.cons (i := 2) (o := ⟨some 113, _, _, _, _, _⟩) rfl (fun K hK => ?_) AllReadyH.nil
                  go_simp
                  go_at_call 14
                  refine (EQ12.out _ (HEV.out _ hHeld.2.2.2.2.2.2.2.2.2.2.2.2)).mono ?_
                  rintro e wp ⟨rfl, hb⟩
                  go_wp2_with fail
                  refine hK.out _ _ ?_ (fun hHeld => ?_)
                  · exact okept (by assumption) hb
                  clear hK K
                  try simp only [Act.put, List.setIfInBounds_toArray, List.set_cons_zero, List.set_cons_succ]
                  refine wpAnyH_take (i := 3) (oi := ⟨some 114, _, _, _, _, _⟩) (v := ?vor33) rfl (by kernel_rfl) (by kernel_rfl) (by kernel_rfl) (fun _ _ _ h => h) (Or.inl ⟨by kernel_rfl, ?yor33⟩) (by assumption) ?ror33
                  case yor33 =>
                    intro w hSw
                    try dsimp only at hSw
                    first | (go_simp; done) | (go_simp; with_reducible rfl)
                  try simp only [Act.put, List.setIfInBounds_toArray, List.set_cons_zero, List.set_cons_succ]
                  refine wpAnyH_ready (rs := [6]) (by kernel_rfl) (by simp) ?_
                  refine AllReadyH.cons (i := 6) (o := ⟨some 117, _, _, _, _, _⟩) rfl (fun K hK => ?_) AllReadyH.nil
                  go_simp
                  go_at_call 31
                  refine (RQ.out _).mono ?_
                  rintro e wp ⟨rfl, hb⟩
                  go_wp2_with fail
                  refine hK.out _ _ ?_ (fun hHeld => ?_)
                  · exact okept (by assumption) hb
                  clear hK K
                  try simp only [Act.put, List.setIfInBounds_toArray, List.set_cons_zero, List.set_cons_succ]
                  refine wpAnyH_take (i := 7) (oi := ⟨some 118, _, _, _, _, _⟩) (v := ?vor37) rfl (by kernel_rfl) (by kernel_rfl) (by kernel_rfl) (fun _ _ _ h => h) (Or.inl ⟨by kernel_rfl, ?yor37⟩) (by assumption) ?ror37
                  case yor37 =>
                    intro w hSw
                    try dsimp only at hSw
                    first | (go_simp; done) | (go_simp; with_reducible rfl)
                  try simp only [Act.put, List.setIfInBounds_toArray, List.set_cons_zero, List.set_cons_succ]
                  refine wpAnyH_take (i := 8) (oi := ⟨some 119, _, _, _, _, _⟩) (v := ?vor38) rfl (by kernel_rfl) (by kernel_rfl) (by kernel_rfl) (fun _ _ _ h => h) (Or.inl ⟨by kernel_rfl, ?yor38⟩) (by assumption) ?ror38
                  case yor38 =>
                    intro w hSw
                    try dsimp only at hSw
                    first | (go_simp; done) | (go_simp; with_reducible rfl)
                  try simp only [Act.put, List.setIfInBounds_toArray, List.set_cons_zero, List.set_cons_succ]
                  refine wpAnyH_take (i := 9) (oi := ⟨some 120, _, _, _, _, _⟩) (v := ?vor39) rfl (by kernel_rfl) (by kernel_rfl) (by kernel_rfl) (fun _ _ _ h => h) (Or.inl ⟨by kernel_rfl, ?yor39⟩) (by assumption) ?ror39
                  case yor39 =>
                    intro w hSw
                    try dsimp only at hSw
                    first | (go_simp; done) | (go_simp; with_reducible rfl)
                  try simp only [Act.put, List.setIfInBounds_toArray, List.set_cons_zero, List.set_cons_succ]
                  refine wpAnyH_take (i := 10) (oi := ⟨some 121, _, _, _, _, _⟩) (v := ?vor310) rfl (by kernel_rfl) (by kernel_rfl) (by kernel_rfl) (fun _ _ _ h => h) (Or.inl ⟨by kernel_rfl, ?yor310⟩) (by assumption) ?ror310
                  case yor310 =>
                    intro w hSw
                    try dsimp only at hSw
                    first | (go_simp; done) | (go_simp; with_reducible rfl)
                  try simp only [Act.put, List.setIfInBounds_toArray, List.set_cons_zero, List.set_cons_succ]
                  refine wpAnyH_take (i := 12) (oi := ⟨some 123, _, _, _, _, _⟩) (v := ?vor312) rfl (by kernel_rfl) (by kernel_rfl) (by kernel_rfl) (fun _ _ _ h => h) (Or.inl ⟨by kernel_rfl, ?yor312⟩) (by assumption) ?ror312
                  case yor312 =>
                    intro w hSw
                    try dsimp only at hSw
                    first | (go_simp; done) | (go_simp; with_reducible rfl)
                  try simp only [Act.put, List.setIfInBounds_toArray, List.set_cons_zero, List.set_cons_succ]
                  refine wpAnyH_take (i := 13) (oi := ⟨some 124, _, _, _, _, _⟩) (v := ?vor313) rfl (by kernel_rfl) (by kernel_rfl) (by kernel_rfl) (fun _ _ _ h => h) (Or.inl ⟨by kernel_rfl, ?yor313⟩) (by assumption) ?ror313
                  case yor313 =>
                    intro w hSw
                    try dsimp only at hSw
                    first | (go_simp; done) | (go_simp; with_reducible rfl)
                  try simp only [Act.put, List.setIfInBounds_toArray, List.set_cons_zero, List.set_cons_succ]
                  refine wpAnyH_ready (rs := [11]) (by kernel_rfl) (by simp) ?_
                  refine AllReadyH.cons (i := 11) (o := ⟨some 122, _, _, _, _, _⟩) rfl (fun K hK => ?_) AllReadyH.nil
                  go_simp
                  go_at_call 14
                  refine (EQ12.out _ (HEV.out _ hHeld.2.2.2.2.2.2.2.2.2.2.2.2)).mono ?_
                  rintro e wp ⟨rfl, hb⟩
                  go_wp2_with fail
                  refine hK.out _ _ ?_ (fun hHeld => ?_)
                  · exact okept (by assumption) hb
                  clear hK K
                  try simp only [Act.put, List.setIfInBounds_toArray, List.set_cons_zero, List.set_cons_succ]
                  refine wpAnyH_ready (rs := [14]) (by kernel_rfl) (by simp) ?_
                  refine AllReadyH.cons (i := 14) (o := ⟨some 125, _, _, _, _, _⟩) rfl (fun K hK => ?_) AllReadyH.nil
                  go_simp
                  go_at_call 14
                  refine (EQ21.out _ (HEV.out _ hHeld.2.2.2.2.2.2.2.2.2.2.2.2)).mono ?_
                  rintro e wp ⟨rfl, hb⟩
                  go_wp2_with fail
                  refine hK.out _ _ ?_ (fun hHeld => ?_)
                  · exact okept (by assumption) hb
                  clear hK K
                  try simp only [Act.put, List.setIfInBounds_toArray, List.set_cons_zero, List.set_cons_succ]
                  refine wpAnyH_take (i := 15) (oi := ⟨some 126, _, _, _, _, _⟩) (v := ?vor315) rfl (by kernel_rfl) (by kernel_rfl) (by kernel_rfl) (fun _ _ _ h => h) (Or.inl ⟨by kernel_rfl, ?yor315⟩) (by assumption) ?ror315
                  case yor315 =>
                    intro w hSw
                    try dsimp only at hSw
                    first | (go_simp; done) | (go_simp; with_reducible rfl)
                  try simp only [Act.put, List.setIfInBounds_toArray, List.set_cons_zero, List.set_cons_succ]
                  refine wpAnyH_take (i := 16) (oi := ⟨some 127, _, _, _, _, _⟩) (v := ?vor316) rfl (by kernel_rfl) (by kernel_rfl) (by kernel_rfl) (fun _ _ _ h => h) (Or.inl ⟨by kernel_rfl, ?yor316⟩) (by assumption) ?ror316
                  case yor316 =>
                    intro w hSw
                    try dsimp only at hSw
                    first | (go_simp; done) | (go_simp; with_reducible rfl)
                  try simp only [Act.put, List.setIfInBounds_toArray, List.set_cons_zero, List.set_cons_succ]
                  refine wpAnyH_take (i := 17) (oi := ⟨some 128, _, _, _, _, _⟩) (v := ?vor317) rfl (by kernel_rfl) (by kernel_rfl) (by kernel_rfl) (fun _ _ _ h => h) (Or.inl ⟨by kernel_rfl, ?yor317⟩) (by assumption) ?ror317
                  case yor317 =>
                    intro w hSw
                    try dsimp only at hSw
                    first | (go_simp; done) | (go_simp; with_reducible rfl)
                  try simp only [Act.put, List.setIfInBounds_toArray, List.set_cons_zero, List.set_cons_succ]
                  refine wpAnyH_take (i := 18) (oi := ⟨some 129, _, _, _, _, _⟩) (v := ?vor318) rfl (by kernel_rfl) (by kernel_rfl) (by kernel_rfl) (fun _ _ _ h => h) (Or.inl ⟨by kernel_rfl, ?yor318⟩) (by assumption) ?ror318
                  case yor318 =>
                    intro w hSw
                    try dsimp only at hSw
                    first | (go_simp; done) | (go_simp; with_reducible rfl)
                  try simp only [Act.put, List.setIfInBounds_toArray, List.set_cons_zero, List.set_cons_succ]
                  refine wpAnyH_take (i := 19) (oi := ⟨some 130, _, _, _, _, _⟩) (v := ?vor319) rfl (by kernel_rfl) (by kernel_rfl) (by kernel_rfl) (fun _ _ _ h => h) (Or.inl ⟨by kernel_rfl, ?yor319⟩) (by assumption) ?ror319
                  case yor319 =>
                    intro w hSw
                    try dsimp only at hSw
                    first | (go_simp; done) | (go_simp; with_reducible rfl)
                  try simp only [Act.put, List.setIfInBounds_toArray, List.set_cons_zero, List.set_cons_succ]
                  refine wpAnyH_ready (rs := [20]) (by kernel_rfl) (by simp) ?_
                  refine AllReadyH.cons (i := 20) (o := ⟨some 131, _, _, _, _, _⟩) rfl (fun K hK => ?_) AllReadyH.nil
                  go_simp
                  go_at_call 14
                  refine (EQ11.out _ (HEV.out _ hHeld.2.2.2.2.2.2.2.2.2.2.2.2)).mono ?_
                  rintro e wp ⟨rfl, hb⟩
                  go_wp2_with fail
                  refine hK.out _ _ ?_ (fun hHeld => ?_)
                  · exact okept (by assumption) hb
                  clear hK K
                  try simp only [Act.put, List.setIfInBounds_toArray, List.set_cons_zero, List.set_cons_succ]
                  refine wpAnyH_take (i := 21) (oi := ⟨some 132, _, _, _, _, _⟩) (v := ?vor321) rfl (by kernel_rfl) (by kernel_rfl) (by kernel_rfl) (fun _ _ _ h => h) (Or.inl ⟨by kernel_rfl, ?yor321⟩) (by assumption) ?ror321
                  case yor321 =>
                    intro w hSw
                    try dsimp only at hSw
                    first | (go_simp; done) | (go_simp; with_reducible rfl)
                  try simp only [Act.put, List.setIfInBounds_toArray, List.set_cons_zero, List.set_cons_succ]
                  refine wpAnyH_take (i := 22) (oi := ⟨some 133, _, _, _, _, _⟩) (v := ?vor322) rfl (by kernel_rfl) (by kernel_rfl) (by kernel_rfl) (fun _ _ _ h => h) (Or.inl ⟨by kernel_rfl, ?yor322⟩) (by assumption) ?ror322
                  case yor322 =>
                    intro w hSw
                    try dsimp only at hSw
                    first | (go_simp; done) | (go_simp; with_reducible rfl)
                  try simp only [Act.put, List.setIfInBounds_toArray, List.set_cons_zero, List.set_cons_succ]
                  refine wpAnyH_take (i := 23) (oi := ⟨some 6, _, _, _, _, _⟩) (v := ?vor323) rfl (by kernel_rfl) (by kernel_rfl) (by kernel_rfl) (fun _ _ _ h => h) (Or.inl ⟨by kernel_rfl, ?yor323⟩) (by assumption) ?ror323
                  case yor323 =>
                    intro w hSw
                    try dsimp only at hSw
                    first | (go_simp; done) | (go_simp; with_reducible rfl)
                  try simp only [Act.put, List.setIfInBounds_toArray, List.set_cons_zero, List.set_cons_succ]
                  refine wpAnyH_done (by kernel_rfl) ?_ _
                  have HZZ := Lib.hid hHeld.2.2.2.2.2.2.2.2.2.2.2.2
                  go_wp2_with fail
                  go_ret
                  exact ⟨rfl, HZZ.out⟩
            · have ho2' : ¬ o2 ≤ 0 := ho2
              obtain ⟨c0, c1, c2, c3, c4, c5, c6, c7, c8, c9, c10, c11, cz⟩ := HX.out
              go_wp2_with fail
              refine (O23.out _).mono ?_
              rintro e wn ⟨rfl, hbn⟩
              replace HX := Lib.hid (okept HX.out hbn)
              clear hbn cz c0 c1 c2 c3 c4 c5 c6 c7 c8 c9 c10 c11
              by_cases k13 : K1 = 3
              · have q1 : (K1 == 3) = true := by rw [k13]; rfl
                clear k13
                obtain ⟨c0, c1, c2, c3, c4, c5, c6, c7, c8, c9, c10, c11, cz⟩ := HX.out
                go_wp2_with fail
                go_ret
                exact ⟨rfl, cz⟩
              · have q1 : (K1 == 3) = false := beq_eq_false_iff_ne.mpr k13
                by_cases k23 : K2 = 3
                · have q2 : (K2 == 3) = true := by rw [k23]; rfl
                  clear k13 k23
                  obtain ⟨c0, c1, c2, c3, c4, c5, c6, c7, c8, c9, c10, c11, cz⟩ := HX.out
                  go_wp2_with fail
                  go_ret
                  exact ⟨rfl, cz⟩
                · have q2 : (K2 == 3) = false := beq_eq_false_iff_ne.mpr k23
                  have kk1 := HK.out
                  have kk2 := HK2.out
                  rw [HQ.out (by omega) (by omega)] at RQ
                  rw [HE1.out (by omega)] at EQ11
                  obtain ⟨ev0, ev1⟩ := HQV.out
                  have hwr : IntKind.i64.wrap eV = eV := IntWalk.i64_in _ (by omega)
                  obtain ⟨c0, c1, c2, c3, c4, c5, c6, c7, c8, c9, c10, c11, cz⟩ := HX.out
                  go_wp2_with fail
                  refine wp_region_held_drew (S := fun w' => w'.cell? ⟨g7, 0, none⟩ = some (.int .i64 K1) ∧ w'.cell? ⟨g7, 1, none⟩ = some (.string A1) ∧ w'.cell? ⟨g7, 2, none⟩ = some (.string B1) ∧ w'.cell? ⟨g7, 3, none⟩ = some (.string C1) ∧ w'.cell? ⟨g8, 0, none⟩ = some (.int .i64 K2) ∧ w'.cell? ⟨g8, 1, none⟩ = some (.string A2) ∧ w'.cell? ⟨g8, 2, none⟩ = some (.string B2) ∧ w'.cell? ⟨g8, 3, none⟩ = some (.string C2) ∧ w'.cell? ⟨g9, 0, none⟩ = some (.int .i64 K3) ∧ w'.cell? ⟨g9, 1, none⟩ = some (.string A3) ∧ w'.cell? ⟨g9, 2, none⟩ = some (.string B3) ∧ w'.cell? ⟨g9, 3, none⟩ = some (.string C3) ∧ Below w.heap.size w w') (by kernel_rfl) ?hSor40 (fun hHeld => ?_)
                  case hSor40 => exact ⟨c0, c1, c2, c3, c4, c5, c6, c7, c8, c9, c10, c11, cz.drew⟩
                  refine wpAnyH_take (i := 0) (oi := ⟨some 111, _, _, _, _, _⟩) (v := ?vor40) rfl (by kernel_rfl) (by kernel_rfl) (by kernel_rfl) (fun _ _ _ h => h) (Or.inl ⟨by kernel_rfl, ?yor40⟩) (by assumption) ?ror40
                  case yor40 =>
                    intro w hSw
                    try dsimp only at hSw
                    first | (go_simp; done) | (go_simp; with_reducible rfl)
                  try simp only [Act.put, List.setIfInBounds_toArray, List.set_cons_zero, List.set_cons_succ]
                  refine wpAnyH_take (i := 1) (oi := ⟨some 112, _, _, _, _, _⟩) (v := ?vor41) rfl (by kernel_rfl) (by kernel_rfl) (by kernel_rfl) (fun _ _ _ h => h) (Or.inl ⟨by kernel_rfl, ?yor41⟩) (by assumption) ?ror41
                  case yor41 =>
                    intro w hSw
                    try dsimp only at hSw
                    first | (go_simp; done) | (go_simp; with_reducible rfl)
                  try simp only [Act.put, List.setIfInBounds_toArray, List.set_cons_zero, List.set_cons_succ]
                  refine wpAnyH_take (i := 4) (oi := ⟨some 115, _, _, _, _, _⟩) (v := ?vor44) rfl (by kernel_rfl) (by kernel_rfl) (by kernel_rfl) (fun _ _ _ h => h) (Or.inl ⟨by kernel_rfl, ?yor44⟩) (by assumption) ?ror44
                  case yor44 =>
                    intro w hSw
                    try dsimp only at hSw
                    first | (go_simp; done) | (go_simp; with_reducible rfl)
                  try simp only [Act.put, List.setIfInBounds_toArray, List.set_cons_zero, List.set_cons_succ]
                  refine wpAnyH_take (i := 5) (oi := ⟨some 116, _, _, _, _, _⟩) (v := ?vor45) rfl (by kernel_rfl) (by kernel_rfl) (by kernel_rfl) (fun _ _ _ h => h) (Or.inl ⟨by kernel_rfl, ?yor45⟩) (by assumption) ?ror45
                  case yor45 =>
                    intro w hSw
                    try dsimp only at hSw
                    first | (go_simp; done) | (go_simp; with_reducible rfl)
                  try simp only [Act.put, List.setIfInBounds_toArray, List.set_cons_zero, List.set_cons_succ]
                  refine wpAnyH_ready (rs := [2]) (by kernel_rfl) (by simp) ?_
                  refine AllReadyH.cons (i := 2) (o := ⟨some 113, _, _, _, _, _⟩) rfl (fun K hK => ?_) AllReadyH.nil
                  go_simp
                  go_at_call 14
                  refine (EQ12.out _ (HEV.out _ hHeld.2.2.2.2.2.2.2.2.2.2.2.2)).mono ?_
                  rintro e wp ⟨rfl, hb⟩
                  go_wp2_with fail
                  refine hK.out _ _ ?_ (fun hHeld => ?_)
                  · exact okept (by assumption) hb
                  clear hK K
                  try simp only [Act.put, List.setIfInBounds_toArray, List.set_cons_zero, List.set_cons_succ]
                  refine wpAnyH_take (i := 3) (oi := ⟨some 114, _, _, _, _, _⟩) (v := ?vor43) rfl (by kernel_rfl) (by kernel_rfl) (by kernel_rfl) (fun _ _ _ h => h) (Or.inl ⟨by kernel_rfl, ?yor43⟩) (by assumption) ?ror43
                  case yor43 =>
                    intro w hSw
                    try dsimp only at hSw
                    first | (go_simp; done) | (go_simp; with_reducible rfl)
                  try simp only [Act.put, List.setIfInBounds_toArray, List.set_cons_zero, List.set_cons_succ]
                  refine wpAnyH_ready (rs := [6]) (by kernel_rfl) (by simp) ?_
                  refine AllReadyH.cons (i := 6) (o := ⟨some 117, _, _, _, _, _⟩) rfl (fun K hK => ?_) AllReadyH.nil
                  go_simp
                  go_at_call 31
                  refine (RQ.out _).mono ?_
                  rintro e wp ⟨rfl, hb⟩
                  go_wp2_with fail
                  refine hK.out _ _ ?_ (fun hHeld => ?_)
                  · exact okept (by assumption) hb
                  clear hK K
                  try simp only [Act.put, List.setIfInBounds_toArray, List.set_cons_zero, List.set_cons_succ]
                  refine wpAnyH_take (i := 7) (oi := ⟨some 118, _, _, _, _, _⟩) (v := ?vor47) rfl (by kernel_rfl) (by kernel_rfl) (by kernel_rfl) (fun _ _ _ h => h) (Or.inl ⟨by kernel_rfl, ?yor47⟩) (by assumption) ?ror47
                  case yor47 =>
                    intro w hSw
                    try dsimp only at hSw
                    first | (go_simp; done) | (go_simp; with_reducible rfl)
                  try simp only [Act.put, List.setIfInBounds_toArray, List.set_cons_zero, List.set_cons_succ]
                  refine wpAnyH_take (i := 8) (oi := ⟨some 119, _, _, _, _, _⟩) (v := ?vor48) rfl (by kernel_rfl) (by kernel_rfl) (by kernel_rfl) (fun _ _ _ h => h) (Or.inl ⟨by kernel_rfl, ?yor48⟩) (by assumption) ?ror48
                  case yor48 =>
                    intro w hSw
                    try dsimp only at hSw
                    first | (go_simp; done) | (go_simp; with_reducible rfl)
                  try simp only [Act.put, List.setIfInBounds_toArray, List.set_cons_zero, List.set_cons_succ]
                  refine wpAnyH_take (i := 9) (oi := ⟨some 120, _, _, _, _, _⟩) (v := ?vor49) rfl (by kernel_rfl) (by kernel_rfl) (by kernel_rfl) (fun _ _ _ h => h) (Or.inl ⟨by kernel_rfl, ?yor49⟩) (by assumption) ?ror49
                  case yor49 =>
                    intro w hSw
                    try dsimp only at hSw
                    first | (go_simp; done) | (go_simp; with_reducible rfl)
                  try simp only [Act.put, List.setIfInBounds_toArray, List.set_cons_zero, List.set_cons_succ]
                  refine wpAnyH_take (i := 10) (oi := ⟨some 121, _, _, _, _, _⟩) (v := ?vor410) rfl (by kernel_rfl) (by kernel_rfl) (by kernel_rfl) (fun _ _ _ h => h) (Or.inl ⟨by kernel_rfl, ?yor410⟩) (by assumption) ?ror410
                  case yor410 =>
                    intro w hSw
                    try dsimp only at hSw
                    first | (go_simp; done) | (go_simp; with_reducible rfl)
                  try simp only [Act.put, List.setIfInBounds_toArray, List.set_cons_zero, List.set_cons_succ]
                  refine wpAnyH_take (i := 12) (oi := ⟨some 123, _, _, _, _, _⟩) (v := ?vor412) rfl (by kernel_rfl) (by kernel_rfl) (by kernel_rfl) (fun _ _ _ h => h) (Or.inl ⟨by kernel_rfl, ?yor412⟩) (by assumption) ?ror412
                  case yor412 =>
                    intro w hSw
                    try dsimp only at hSw
                    first | (go_simp; done) | (go_simp; with_reducible rfl)
                  try simp only [Act.put, List.setIfInBounds_toArray, List.set_cons_zero, List.set_cons_succ]
                  refine wpAnyH_take (i := 13) (oi := ⟨some 124, _, _, _, _, _⟩) (v := ?vor413) rfl (by kernel_rfl) (by kernel_rfl) (by kernel_rfl) (fun _ _ _ h => h) (Or.inl ⟨by kernel_rfl, ?yor413⟩) (by assumption) ?ror413
                  case yor413 =>
                    intro w hSw
                    try dsimp only at hSw
                    first | (go_simp; done) | (go_simp; with_reducible rfl)
                  try simp only [Act.put, List.setIfInBounds_toArray, List.set_cons_zero, List.set_cons_succ]
                  refine wpAnyH_ready (rs := [11]) (by kernel_rfl) (by simp) ?_
                  refine AllReadyH.cons (i := 11) (o := ⟨some 122, _, _, _, _, _⟩) rfl (fun K hK => ?_) AllReadyH.nil
                  go_simp
                  go_at_call 14
                  refine (EQ12.out _ (HEV.out _ hHeld.2.2.2.2.2.2.2.2.2.2.2.2)).mono ?_
                  rintro e wp ⟨rfl, hb⟩
                  go_wp2_with fail
                  refine hK.out _ _ ?_ (fun hHeld => ?_)
                  · exact okept (by assumption) hb
                  clear hK K
                  try simp only [Act.put, List.setIfInBounds_toArray, List.set_cons_zero, List.set_cons_succ]
                  refine wpAnyH_ready (rs := [14]) (by kernel_rfl) (by simp) ?_
                  refine AllReadyH.cons (i := 14) (o := ⟨some 125, _, _, _, _, _⟩) rfl (fun K hK => ?_) AllReadyH.nil
                  go_simp
                  go_at_call 14
                  refine (EQ21.out _ (HEV.out _ hHeld.2.2.2.2.2.2.2.2.2.2.2.2)).mono ?_
                  rintro e wp ⟨rfl, hb⟩
                  go_wp2_with fail
                  refine hK.out _ _ ?_ (fun hHeld => ?_)
                  · exact okept (by assumption) hb
                  clear hK K
                  try simp only [Act.put, List.setIfInBounds_toArray, List.set_cons_zero, List.set_cons_succ]
                  refine wpAnyH_take (i := 15) (oi := ⟨some 126, _, _, _, _, _⟩) (v := ?vor415) rfl (by kernel_rfl) (by kernel_rfl) (by kernel_rfl) (fun _ _ _ h => h) (Or.inl ⟨by kernel_rfl, ?yor415⟩) (by assumption) ?ror415
                  case yor415 =>
                    intro w hSw
                    try dsimp only at hSw
                    first | (go_simp; done) | (go_simp; with_reducible rfl)
                  try simp only [Act.put, List.setIfInBounds_toArray, List.set_cons_zero, List.set_cons_succ]
                  refine wpAnyH_take (i := 16) (oi := ⟨some 127, _, _, _, _, _⟩) (v := ?vor416) rfl (by kernel_rfl) (by kernel_rfl) (by kernel_rfl) (fun _ _ _ h => h) (Or.inl ⟨by kernel_rfl, ?yor416⟩) (by assumption) ?ror416
                  case yor416 =>
                    intro w hSw
                    try dsimp only at hSw
                    first | (go_simp; done) | (go_simp; with_reducible rfl)
                  try simp only [Act.put, List.setIfInBounds_toArray, List.set_cons_zero, List.set_cons_succ]
                  refine wpAnyH_take (i := 17) (oi := ⟨some 128, _, _, _, _, _⟩) (v := ?vor417) rfl (by kernel_rfl) (by kernel_rfl) (by kernel_rfl) (fun _ _ _ h => h) (Or.inl ⟨by kernel_rfl, ?yor417⟩) (by assumption) ?ror417
                  case yor417 =>
                    intro w hSw
                    try dsimp only at hSw
                    first | (go_simp; done) | (go_simp; with_reducible rfl)
                  try simp only [Act.put, List.setIfInBounds_toArray, List.set_cons_zero, List.set_cons_succ]
                  refine wpAnyH_take (i := 18) (oi := ⟨some 129, _, _, _, _, _⟩) (v := ?vor418) rfl (by kernel_rfl) (by kernel_rfl) (by kernel_rfl) (fun _ _ _ h => h) (Or.inl ⟨by kernel_rfl, ?yor418⟩) (by assumption) ?ror418
                  case yor418 =>
                    intro w hSw
                    try dsimp only at hSw
                    first | (go_simp; done) | (go_simp; with_reducible rfl)
                  try simp only [Act.put, List.setIfInBounds_toArray, List.set_cons_zero, List.set_cons_succ]
                  refine wpAnyH_take (i := 19) (oi := ⟨some 130, _, _, _, _, _⟩) (v := ?vor419) rfl (by kernel_rfl) (by kernel_rfl) (by kernel_rfl) (fun _ _ _ h => h) (Or.inl ⟨by kernel_rfl, ?yor419⟩) (by assumption) ?ror419
                  case yor419 =>
                    intro w hSw
                    try dsimp only at hSw
                    first | (go_simp; done) | (go_simp; with_reducible rfl)
                  try simp only [Act.put, List.setIfInBounds_toArray, List.set_cons_zero, List.set_cons_succ]
                  refine wpAnyH_ready (rs := [20]) (by kernel_rfl) (by simp) ?_
                  refine AllReadyH.cons (i := 20) (o := ⟨some 131, _, _, _, _, _⟩) rfl (fun K hK => ?_) AllReadyH.nil
                  go_simp
                  go_at_call 14
                  refine (EQ11.out _ (HEV.out _ hHeld.2.2.2.2.2.2.2.2.2.2.2.2)).mono ?_
                  rintro e wp ⟨rfl, hb⟩
                  go_wp2_with fail
                  refine hK.out _ _ ?_ (fun hHeld => ?_)
                  · exact okept (by assumption) hb
                  clear hK K
                  try simp only [Act.put, List.setIfInBounds_toArray, List.set_cons_zero, List.set_cons_succ]
                  refine wpAnyH_take (i := 21) (oi := ⟨some 132, _, _, _, _, _⟩) (v := ?vor421) rfl (by kernel_rfl) (by kernel_rfl) (by kernel_rfl) (fun _ _ _ h => h) (Or.inl ⟨by kernel_rfl, ?yor421⟩) (by assumption) ?ror421
                  case yor421 =>
                    intro w hSw
                    try dsimp only at hSw
                    first | (go_simp; done) | (go_simp; with_reducible rfl)
                  try simp only [Act.put, List.setIfInBounds_toArray, List.set_cons_zero, List.set_cons_succ]
                  refine wpAnyH_take (i := 22) (oi := ⟨some 133, _, _, _, _, _⟩) (v := ?vor422) rfl (by kernel_rfl) (by kernel_rfl) (by kernel_rfl) (fun _ _ _ h => h) (Or.inl ⟨by kernel_rfl, ?yor422⟩) (by assumption) ?ror422
                  case yor422 =>
                    intro w hSw
                    try dsimp only at hSw
                    first | (go_simp; done) | (go_simp; with_reducible rfl)
                  try simp only [Act.put, List.setIfInBounds_toArray, List.set_cons_zero, List.set_cons_succ]
                  refine wpAnyH_take (i := 23) (oi := ⟨some 6, _, _, _, _, _⟩) (v := ?vor423) rfl (by kernel_rfl) (by kernel_rfl) (by kernel_rfl) (fun _ _ _ h => h) (Or.inl ⟨by kernel_rfl, ?yor423⟩) (by assumption) ?ror423
                  case yor423 =>
                    intro w hSw
                    try dsimp only at hSw
                    first | (go_simp; done) | (go_simp; with_reducible rfl)
                  try simp only [Act.put, List.setIfInBounds_toArray, List.set_cons_zero, List.set_cons_succ]
                  refine wpAnyH_done (by kernel_rfl) ?_ _
                  have HZZ := Lib.hid hHeld.2.2.2.2.2.2.2.2.2.2.2.2
                  go_wp2_with fail
                  go_ret
                  exact ⟨rfl, HZZ.out⟩
          · subst ho
            rw [show (-(0 : Int)) = 0 from by decide] at O21 L21
            rw [show decide ((0 : Int) = -1) = false from by decide] at L12
            rw [show decide ((0 : Int) = -1) = false from by decide] at L21
            rw [show decide ((0 : Int) = 0) = true from by decide] at QE SM
            have hwn : IntKind.i64.wrap 0 = 0 := by decide
            have hk12 := HEK.out rfl
            subst hk12
            have kk1 := HK.out
            by_cases k13 : K1 < 3
            · rw [decide_eq_true k13] at SM
              have q0 : decide (K1 < 3) = true := decide_eq_true k13
              have q1 : (K1 == 3) = false := beq_eq_false_iff_ne.mpr (by omega)
              obtain ⟨c0, c1, c2, c3, c4, c5, c6, c7, c8, c9, c10, c11, cz⟩ := HX.out
              go_wp2_with fail
              refine (O12.out _).mono ?_
              rintro e wn ⟨rfl, hbn⟩
              replace HX := Lib.hid (okept HX.out hbn)
              clear hbn cz c0 c1 c2 c3 c4 c5 c6 c7 c8 c9 c10 c11
              obtain ⟨c0, c1, c2, c3, c4, c5, c6, c7, c8, c9, c10, c11, cz⟩ := HX.out
              go_wp2_with fail
              refine (L12.out _).mono ?_
              rintro e wn ⟨rfl, hbn⟩
              replace HX := Lib.hid (okept HX.out hbn)
              clear hbn cz c0 c1 c2 c3 c4 c5 c6 c7 c8 c9 c10 c11
              obtain ⟨c0, c1, c2, c3, c4, c5, c6, c7, c8, c9, c10, c11, cz⟩ := HX.out
              go_wp2_with fail
              refine (L21.out _).mono ?_
              rintro e wn ⟨rfl, hbn⟩
              replace HX := Lib.hid (okept HX.out hbn)
              clear hbn cz c0 c1 c2 c3 c4 c5 c6 c7 c8 c9 c10 c11
              obtain ⟨c0, c1, c2, c3, c4, c5, c6, c7, c8, c9, c10, c11, cz⟩ := HX.out
              go_wp2_with fail
              refine wp_region_held_drew (S := fun w' => w'.cell? ⟨g7, 0, none⟩ = some (.int .i64 K1) ∧ w'.cell? ⟨g7, 1, none⟩ = some (.string A1) ∧ w'.cell? ⟨g7, 2, none⟩ = some (.string B1) ∧ w'.cell? ⟨g7, 3, none⟩ = some (.string C1) ∧ w'.cell? ⟨g8, 0, none⟩ = some (.int .i64 K1) ∧ w'.cell? ⟨g8, 1, none⟩ = some (.string A2) ∧ w'.cell? ⟨g8, 2, none⟩ = some (.string B2) ∧ w'.cell? ⟨g8, 3, none⟩ = some (.string C2) ∧ w'.cell? ⟨g9, 0, none⟩ = some (.int .i64 K3) ∧ w'.cell? ⟨g9, 1, none⟩ = some (.string A3) ∧ w'.cell? ⟨g9, 2, none⟩ = some (.string B3) ∧ w'.cell? ⟨g9, 3, none⟩ = some (.string C3) ∧ Below w.heap.size w w') (by kernel_rfl) ?hSor50 (fun hHeld => ?_)
              case hSor50 => exact ⟨c0, c1, c2, c3, c4, c5, c6, c7, c8, c9, c10, c11, cz.drew⟩
              refine wpAnyH_take (i := 0) (oi := ⟨some 56, _, _, _, _, _⟩) (v := ?vor50) rfl (by kernel_rfl) (by kernel_rfl) (by kernel_rfl) (fun _ _ _ h => h) (Or.inl ⟨by kernel_rfl, ?yor50⟩) (by assumption) ?ror50
              case yor50 =>
                intro w hSw
                try dsimp only at hSw
                first | (go_simp; done) | (go_simp; with_reducible rfl)
              try simp only [Act.put, List.setIfInBounds_toArray, List.set_cons_zero, List.set_cons_succ]
              refine wpAnyH_take (i := 1) (oi := ⟨some 57, _, _, _, _, _⟩) (v := ?vor51) rfl (by kernel_rfl) (by kernel_rfl) (by kernel_rfl) (fun _ _ _ h => h) (Or.inl ⟨by kernel_rfl, ?yor51⟩) (by assumption) ?ror51
              case yor51 =>
                intro w hSw
                try dsimp only at hSw
                first | (go_simp; done) | (go_simp; with_reducible rfl)
              try simp only [Act.put, List.setIfInBounds_toArray, List.set_cons_zero, List.set_cons_succ]
              refine wpAnyH_take (i := 2) (oi := ⟨some 58, _, _, _, _, _⟩) (v := ?vor52) rfl (by kernel_rfl) (by kernel_rfl) (by kernel_rfl) (fun _ _ _ h => h) (Or.inl ⟨by kernel_rfl, ?yor52⟩) (by assumption) ?ror52
              case yor52 =>
                intro w hSw
                try dsimp only at hSw
                first | (go_simp; done) | (go_simp; with_reducible rfl)
              try simp only [Act.put, List.setIfInBounds_toArray, List.set_cons_zero, List.set_cons_succ]
              refine wpAnyH_take (i := 3) (oi := ⟨some 59, _, _, _, _, _⟩) (v := ?vor53) rfl (by kernel_rfl) (by kernel_rfl) (by kernel_rfl) (fun _ _ _ h => h) (Or.inl ⟨by kernel_rfl, ?yor53⟩) (by assumption) ?ror53
              case yor53 =>
                intro w hSw
                try dsimp only at hSw
                first | (go_simp; done) | (go_simp; with_reducible rfl)
              try simp only [Act.put, List.setIfInBounds_toArray, List.set_cons_zero, List.set_cons_succ]
              refine wpAnyH_take (i := 4) (oi := ⟨some 60, _, _, _, _, _⟩) (v := ?vor54) rfl (by kernel_rfl) (by kernel_rfl) (by kernel_rfl) (fun _ _ _ h => h) (Or.inl ⟨by kernel_rfl, ?yor54⟩) (by assumption) ?ror54
              case yor54 =>
                intro w hSw
                try dsimp only at hSw
                first | (go_simp; done) | (go_simp; with_reducible rfl)
              try simp only [Act.put, List.setIfInBounds_toArray, List.set_cons_zero, List.set_cons_succ]
              refine wpAnyH_take (i := 5) (oi := ⟨some 61, _, _, _, _, _⟩) (v := ?vor55) rfl (by kernel_rfl) (by kernel_rfl) (by kernel_rfl) (fun _ _ _ h => h) (Or.inl ⟨by kernel_rfl, ?yor55⟩) (by assumption) ?ror55
              case yor55 =>
                intro w hSw
                try dsimp only at hSw
                first | (go_simp; done) | (go_simp; with_reducible rfl)
              try simp only [Act.put, List.setIfInBounds_toArray, List.set_cons_zero, List.set_cons_succ]
              refine wpAnyH_take (i := 7) (oi := ⟨some 63, _, _, _, _, _⟩) (v := ?vor57) rfl (by kernel_rfl) (by kernel_rfl) (by kernel_rfl) (fun _ _ _ h => h) (Or.inl ⟨by kernel_rfl, ?yor57⟩) (by assumption) ?ror57
              case yor57 =>
                intro w hSw
                try dsimp only at hSw
                first | (go_simp; done) | (go_simp; with_reducible rfl)
              try simp only [Act.put, List.setIfInBounds_toArray, List.set_cons_zero, List.set_cons_succ]
              refine wpAnyH_take (i := 8) (oi := ⟨some 64, _, _, _, _, _⟩) (v := ?vor58) rfl (by kernel_rfl) (by kernel_rfl) (by kernel_rfl) (fun _ _ _ h => h) (Or.inl ⟨by kernel_rfl, ?yor58⟩) (by assumption) ?ror58
              case yor58 =>
                intro w hSw
                try dsimp only at hSw
                first | (go_simp; done) | (go_simp; with_reducible rfl)
              try simp only [Act.put, List.setIfInBounds_toArray, List.set_cons_zero, List.set_cons_succ]
              refine wpAnyH_ready (rs := [6]) (by kernel_rfl) (by simp) ?_
              refine AllReadyH.cons (i := 6) (o := ⟨some 62, _, _, _, _, _⟩) rfl (fun K hK => ?_) AllReadyH.nil
              go_simp
              go_at_call 29
              refine (O21.out _).mono ?_
              rintro e wp ⟨rfl, hb⟩
              go_wp2_with fail
              refine hK.out _ _ ?_ (fun hHeld => ?_)
              · exact okept (by assumption) hb
              clear hK K
              try simp only [Act.put, List.setIfInBounds_toArray, List.set_cons_zero, List.set_cons_succ]
              refine wpAnyH_take (i := 9) (oi := ⟨some 65, _, _, _, _, _⟩) (v := ?vor59) rfl (by kernel_rfl) (by kernel_rfl) (by kernel_rfl) (fun _ _ _ h => h) (Or.inl ⟨by kernel_rfl, ?yor59⟩) (by assumption) ?ror59
              case yor59 =>
                intro w hSw
                try dsimp only at hSw
                first | (go_simp; done) | (go_simp; with_reducible rfl)
              try simp only [Act.put, List.setIfInBounds_toArray, List.set_cons_zero, List.set_cons_succ]
              refine wpAnyH_take (i := 10) (oi := ⟨some 66, _, _, _, _, _⟩) (v := ?vor510) rfl (by kernel_rfl) (by kernel_rfl) (by kernel_rfl) (fun _ _ _ h => h) (Or.inl ⟨by kernel_rfl, ?yor510⟩) (by assumption) ?ror510
              case yor510 =>
                intro w hSw
                try dsimp only at hSw
                first | (go_simp; done) | (go_simp; with_reducible rfl)
              try simp only [Act.put, List.setIfInBounds_toArray, List.set_cons_zero, List.set_cons_succ]
              refine wpAnyH_take (i := 11) (oi := ⟨some 67, _, _, _, _, _⟩) (v := ?vor511) rfl (by kernel_rfl) (by kernel_rfl) (by kernel_rfl) (fun _ _ _ h => h) (Or.inl ⟨by kernel_rfl, ?yor511⟩) (by assumption) ?ror511
              case yor511 =>
                intro w hSw
                try dsimp only at hSw
                first | (go_simp; done) | (go_simp; with_reducible rfl)
              try simp only [Act.put, List.setIfInBounds_toArray, List.set_cons_zero, List.set_cons_succ]
              refine wpAnyH_take (i := 12) (oi := ⟨some 68, _, _, _, _, _⟩) (v := ?vor512) rfl (by kernel_rfl) (by kernel_rfl) (by kernel_rfl) (fun _ _ _ h => h) (Or.inl ⟨by kernel_rfl, ?yor512⟩) (by assumption) ?ror512
              case yor512 =>
                intro w hSw
                try dsimp only at hSw
                first | (go_simp; done) | (go_simp; with_reducible rfl)
              try simp only [Act.put, List.setIfInBounds_toArray, List.set_cons_zero, List.set_cons_succ]
              refine wpAnyH_take (i := 13) (oi := ⟨some 69, _, _, _, _, _⟩) (v := ?vor513) rfl (by kernel_rfl) (by kernel_rfl) (by kernel_rfl) (fun _ _ _ h => h) (Or.inl ⟨by kernel_rfl, ?yor513⟩) (by assumption) ?ror513
              case yor513 =>
                intro w hSw
                try dsimp only at hSw
                first | (go_simp; done) | (go_simp; with_reducible rfl)
              try simp only [Act.put, List.setIfInBounds_toArray, List.set_cons_zero, List.set_cons_succ]
              refine wpAnyH_take (i := 15) (oi := ⟨some 71, _, _, _, _, _⟩) (v := ?vor515) rfl (by kernel_rfl) (by kernel_rfl) (by kernel_rfl) (fun _ _ _ h => h) (Or.inl ⟨by kernel_rfl, ?yor515⟩) (by assumption) ?ror515
              case yor515 =>
                intro w hSw
                try dsimp only at hSw
                first | (go_simp; done) | (go_simp; with_reducible rfl)
              try simp only [Act.put, List.setIfInBounds_toArray, List.set_cons_zero, List.set_cons_succ]
              refine wpAnyH_take (i := 16) (oi := ⟨some 72, _, _, _, _, _⟩) (v := ?vor516) rfl (by kernel_rfl) (by kernel_rfl) (by kernel_rfl) (fun _ _ _ h => h) (Or.inl ⟨by kernel_rfl, ?yor516⟩) (by assumption) ?ror516
              case yor516 =>
                intro w hSw
                try dsimp only at hSw
                first | (go_simp; done) | (go_simp; with_reducible rfl)
              try simp only [Act.put, List.setIfInBounds_toArray, List.set_cons_zero, List.set_cons_succ]
              refine wpAnyH_take (i := 17) (oi := ⟨some 73, _, _, _, _, _⟩) (v := ?vor517) rfl (by kernel_rfl) (by kernel_rfl) (by kernel_rfl) (fun _ _ _ h => h) (Or.inl ⟨by kernel_rfl, ?yor517⟩) (by assumption) ?ror517
              case yor517 =>
                intro w hSw
                try dsimp only at hSw
                first | (go_simp; done) | (go_simp; with_reducible rfl)
              try simp only [Act.put, List.setIfInBounds_toArray, List.set_cons_zero, List.set_cons_succ]
              refine wpAnyH_ready (rs := [14]) (by kernel_rfl) (by simp) ?_
              refine AllReadyH.cons (i := 14) (o := ⟨some 70, _, _, _, _, _⟩) rfl (fun K hK => ?_) AllReadyH.nil
              go_simp
              go_at_call 27
              refine (SM.out _).mono ?_
              rintro e wp ⟨rfl, hb⟩
              go_wp2_with fail
              refine hK.out _ _ ?_ (fun hHeld => ?_)
              · exact okept (by assumption) hb
              clear hK K
              try simp only [Act.put, List.setIfInBounds_toArray, List.set_cons_zero, List.set_cons_succ]
              refine wpAnyH_take (i := 18) (oi := ⟨some 74, _, _, _, _, _⟩) (v := ?vor518) rfl (by kernel_rfl) (by kernel_rfl) (by kernel_rfl) (fun _ _ _ h => h) (Or.inl ⟨by kernel_rfl, ?yor518⟩) (by assumption) ?ror518
              case yor518 =>
                intro w hSw
                try dsimp only at hSw
                first | (go_simp; done) | (go_simp; with_reducible rfl)
              try simp only [Act.put, List.setIfInBounds_toArray, List.set_cons_zero, List.set_cons_succ]
              refine wpAnyH_take (i := 19) (oi := ⟨some 75, _, _, _, _, _⟩) (v := ?vor519) rfl (by kernel_rfl) (by kernel_rfl) (by kernel_rfl) (fun _ _ _ h => h) (Or.inl ⟨by kernel_rfl, ?yor519⟩) (by assumption) ?ror519
              case yor519 =>
                intro w hSw
                try dsimp only at hSw
                first | (go_simp; done) | (go_simp; with_reducible rfl)
              try simp only [Act.put, List.setIfInBounds_toArray, List.set_cons_zero, List.set_cons_succ]
              refine wpAnyH_take (i := 20) (oi := ⟨some 76, _, _, _, _, _⟩) (v := ?vor520) rfl (by kernel_rfl) (by kernel_rfl) (by kernel_rfl) (fun _ _ _ h => h) (Or.inl ⟨by kernel_rfl, ?yor520⟩) (by assumption) ?ror520
              case yor520 =>
                intro w hSw
                try dsimp only at hSw
                first | (go_simp; done) | (go_simp; with_reducible rfl)
              try simp only [Act.put, List.setIfInBounds_toArray, List.set_cons_zero, List.set_cons_succ]
              refine wpAnyH_take (i := 21) (oi := ⟨some 77, _, _, _, _, _⟩) (v := ?vor521) rfl (by kernel_rfl) (by kernel_rfl) (by kernel_rfl) (fun _ _ _ h => h) (Or.inl ⟨by kernel_rfl, ?yor521⟩) (by assumption) ?ror521
              case yor521 =>
                intro w hSw
                try dsimp only at hSw
                first | (go_simp; done) | (go_simp; with_reducible rfl)
              try simp only [Act.put, List.setIfInBounds_toArray, List.set_cons_zero, List.set_cons_succ]
              refine wpAnyH_take (i := 22) (oi := ⟨some 78, _, _, _, _, _⟩) (v := ?vor522) rfl (by kernel_rfl) (by kernel_rfl) (by kernel_rfl) (fun _ _ _ h => h) (Or.inl ⟨by kernel_rfl, ?yor522⟩) (by assumption) ?ror522
              case yor522 =>
                intro w hSw
                try dsimp only at hSw
                first | (go_simp; done) | (go_simp; with_reducible rfl)
              try simp only [Act.put, List.setIfInBounds_toArray, List.set_cons_zero, List.set_cons_succ]
              refine wpAnyH_take (i := 23) (oi := ⟨some 79, _, _, _, _, _⟩) (v := ?vor523) rfl (by kernel_rfl) (by kernel_rfl) (by kernel_rfl) (fun _ _ _ h => h) (Or.inl ⟨by kernel_rfl, ?yor523⟩) (by assumption) ?ror523
              case yor523 =>
                intro w hSw
                try dsimp only at hSw
                first | (go_simp; done) | (go_simp; with_reducible rfl)
              try simp only [Act.put, List.setIfInBounds_toArray, List.set_cons_zero, List.set_cons_succ]
              refine wpAnyH_take (i := 24) (oi := ⟨some 80, _, _, _, _, _⟩) (v := ?vor524) rfl (by kernel_rfl) (by kernel_rfl) (by kernel_rfl) (fun _ _ _ h => h) (Or.inl ⟨by kernel_rfl, ?yor524⟩) (by assumption) ?ror524
              case yor524 =>
                intro w hSw
                try dsimp only at hSw
                first | (go_simp; done) | (go_simp; with_reducible rfl)
              try simp only [Act.put, List.setIfInBounds_toArray, List.set_cons_zero, List.set_cons_succ]
              refine wpAnyH_take (i := 25) (oi := ⟨some 81, _, _, _, _, _⟩) (v := ?vor525) rfl (by kernel_rfl) (by kernel_rfl) (by kernel_rfl) (fun _ _ _ h => h) (Or.inl ⟨by kernel_rfl, ?yor525⟩) (by assumption) ?ror525
              case yor525 =>
                intro w hSw
                try dsimp only at hSw
                first | (go_simp; done) | (go_simp; with_reducible rfl)
              try simp only [Act.put, List.setIfInBounds_toArray, List.set_cons_zero, List.set_cons_succ]
              refine wpAnyH_take (i := 26) (oi := ⟨some 82, _, _, _, _, _⟩) (v := ?vor526) rfl (by kernel_rfl) (by kernel_rfl) (by kernel_rfl) (fun _ _ _ h => h) (Or.inl ⟨by kernel_rfl, ?yor526⟩) (by assumption) ?ror526
              case yor526 =>
                intro w hSw
                try dsimp only at hSw
                first | (go_simp; done) | (go_simp; with_reducible rfl)
              try simp only [Act.put, List.setIfInBounds_toArray, List.set_cons_zero, List.set_cons_succ]
              refine wpAnyH_take (i := 27) (oi := ⟨some 83, _, _, _, _, _⟩) (v := ?vor527) rfl (by kernel_rfl) (by kernel_rfl) (by kernel_rfl) (fun _ _ _ h => h) (Or.inl ⟨by kernel_rfl, ?yor527⟩) (by assumption) ?ror527
              case yor527 =>
                intro w hSw
                try dsimp only at hSw
                first | (go_simp; done) | (go_simp; with_reducible rfl)
              try simp only [Act.put, List.setIfInBounds_toArray, List.set_cons_zero, List.set_cons_succ]
              refine wpAnyH_take (i := 28) (oi := ⟨some 84, _, _, _, _, _⟩) (v := ?vor528) rfl (by kernel_rfl) (by kernel_rfl) (by kernel_rfl) (fun _ _ _ h => h) (Or.inl ⟨by kernel_rfl, ?yor528⟩) (by assumption) ?ror528
              case yor528 =>
                intro w hSw
                try dsimp only at hSw
                first | (go_simp; done) | (go_simp; with_reducible rfl)
              try simp only [Act.put, List.setIfInBounds_toArray, List.set_cons_zero, List.set_cons_succ]
              refine wpAnyH_take (i := 29) (oi := ⟨some 85, _, _, _, _, _⟩) (v := ?vor529) rfl (by kernel_rfl) (by kernel_rfl) (by kernel_rfl) (fun _ _ _ h => h) (Or.inl ⟨by kernel_rfl, ?yor529⟩) (by assumption) ?ror529
              case yor529 =>
                intro w hSw
                try dsimp only at hSw
                first | (go_simp; done) | (go_simp; with_reducible rfl)
              try simp only [Act.put, List.setIfInBounds_toArray, List.set_cons_zero, List.set_cons_succ]
              refine wpAnyH_take (i := 30) (oi := ⟨some 86, _, _, _, _, _⟩) (v := ?vor530) rfl (by kernel_rfl) (by kernel_rfl) (by kernel_rfl) (fun _ _ _ h => h) (Or.inl ⟨by kernel_rfl, ?yor530⟩) (by assumption) ?ror530
              case yor530 =>
                intro w hSw
                try dsimp only at hSw
                first | (go_simp; done) | (go_simp; with_reducible rfl)
              try simp only [Act.put, List.setIfInBounds_toArray, List.set_cons_zero, List.set_cons_succ]
              refine wpAnyH_take (i := 31) (oi := ⟨some 87, _, _, _, _, _⟩) (v := ?vor531) rfl (by kernel_rfl) (by kernel_rfl) (by kernel_rfl) (fun _ _ _ h => h) (Or.inl ⟨by kernel_rfl, ?yor531⟩) (by assumption) ?ror531
              case yor531 =>
                intro w hSw
                try dsimp only at hSw
                first | (go_simp; done) | (go_simp; with_reducible rfl)
              try simp only [Act.put, List.setIfInBounds_toArray, List.set_cons_zero, List.set_cons_succ]
              refine wpAnyH_take (i := 32) (oi := ⟨some 88, _, _, _, _, _⟩) (v := ?vor532) rfl (by kernel_rfl) (by kernel_rfl) (by kernel_rfl) (fun _ _ _ h => h) (Or.inl ⟨by kernel_rfl, ?yor532⟩) (by assumption) ?ror532
              case yor532 =>
                intro w hSw
                try dsimp only at hSw
                first | (go_simp; done) | (go_simp; with_reducible rfl)
              try simp only [Act.put, List.setIfInBounds_toArray, List.set_cons_zero, List.set_cons_succ]
              refine wpAnyH_done (by kernel_rfl) ?_ _
              replace HX := Lib.hid hHeld
              clear hHeld cz c0 c1 c2 c3 c4 c5 c6 c7 c8 c9 c10 c11
              by_cases ho2 : o2 ≤ 0
              · have ho3 := HTR.out (by omega) ho2
                have ho3' : ¬ 0 < o3 := by omega
                obtain ⟨c0, c1, c2, c3, c4, c5, c6, c7, c8, c9, c10, c11, cz⟩ := HX.out
                go_wp2_with fail
                refine (O23.out _).mono ?_
                rintro e wn ⟨rfl, hbn⟩
                replace HX := Lib.hid (okept HX.out hbn)
                clear hbn cz c0 c1 c2 c3 c4 c5 c6 c7 c8 c9 c10 c11
                obtain ⟨c0, c1, c2, c3, c4, c5, c6, c7, c8, c9, c10, c11, cz⟩ := HX.out
                go_wp2_with fail
                refine (O13.out _).mono ?_
                rintro e wn ⟨rfl, hbn⟩
                replace HX := Lib.hid (okept HX.out hbn)
                clear hbn cz c0 c1 c2 c3 c4 c5 c6 c7 c8 c9 c10 c11
                rw [HQ.out (by omega) (by omega)] at RQ
                rw [HE1.out (by omega)] at EQ11
                obtain ⟨ev0, ev1⟩ := HQV.out
                have hwr : IntKind.i64.wrap eV = eV := IntWalk.i64_in _ (by omega)
                obtain ⟨c0, c1, c2, c3, c4, c5, c6, c7, c8, c9, c10, c11, cz⟩ := HX.out
                go_wp2_with fail
                refine wp_region_held_drew (S := fun w' => w'.cell? ⟨g7, 0, none⟩ = some (.int .i64 K1) ∧ w'.cell? ⟨g7, 1, none⟩ = some (.string A1) ∧ w'.cell? ⟨g7, 2, none⟩ = some (.string B1) ∧ w'.cell? ⟨g7, 3, none⟩ = some (.string C1) ∧ w'.cell? ⟨g8, 0, none⟩ = some (.int .i64 K1) ∧ w'.cell? ⟨g8, 1, none⟩ = some (.string A2) ∧ w'.cell? ⟨g8, 2, none⟩ = some (.string B2) ∧ w'.cell? ⟨g8, 3, none⟩ = some (.string C2) ∧ w'.cell? ⟨g9, 0, none⟩ = some (.int .i64 K3) ∧ w'.cell? ⟨g9, 1, none⟩ = some (.string A3) ∧ w'.cell? ⟨g9, 2, none⟩ = some (.string B3) ∧ w'.cell? ⟨g9, 3, none⟩ = some (.string C3) ∧ Below w.heap.size w w') (by kernel_rfl) ?hSor60 (fun hHeld => ?_)
                case hSor60 => exact ⟨c0, c1, c2, c3, c4, c5, c6, c7, c8, c9, c10, c11, cz.drew⟩
                refine wpAnyH_take (i := 0) (oi := ⟨some 111, _, _, _, _, _⟩) (v := ?vor60) rfl (by kernel_rfl) (by kernel_rfl) (by kernel_rfl) (fun _ _ _ h => h) (Or.inl ⟨by kernel_rfl, ?yor60⟩) (by assumption) ?ror60
                case yor60 =>
                  intro w hSw
                  try dsimp only at hSw
                  first | (go_simp; done) | (go_simp; with_reducible rfl)
                try simp only [Act.put, List.setIfInBounds_toArray, List.set_cons_zero, List.set_cons_succ]
                refine wpAnyH_take (i := 1) (oi := ⟨some 112, _, _, _, _, _⟩) (v := ?vor61) rfl (by kernel_rfl) (by kernel_rfl) (by kernel_rfl) (fun _ _ _ h => h) (Or.inl ⟨by kernel_rfl, ?yor61⟩) (by assumption) ?ror61
                case yor61 =>
                  intro w hSw
                  try dsimp only at hSw
                  first | (go_simp; done) | (go_simp; with_reducible rfl)
                try simp only [Act.put, List.setIfInBounds_toArray, List.set_cons_zero, List.set_cons_succ]
                refine wpAnyH_take (i := 4) (oi := ⟨some 115, _, _, _, _, _⟩) (v := ?vor64) rfl (by kernel_rfl) (by kernel_rfl) (by kernel_rfl) (fun _ _ _ h => h) (Or.inl ⟨by kernel_rfl, ?yor64⟩) (by assumption) ?ror64
                case yor64 =>
                  intro w hSw
                  try dsimp only at hSw
                  first | (go_simp; done) | (go_simp; with_reducible rfl)
                try simp only [Act.put, List.setIfInBounds_toArray, List.set_cons_zero, List.set_cons_succ]
                refine wpAnyH_take (i := 5) (oi := ⟨some 116, _, _, _, _, _⟩) (v := ?vor65) rfl (by kernel_rfl) (by kernel_rfl) (by kernel_rfl) (fun _ _ _ h => h) (Or.inl ⟨by kernel_rfl, ?yor65⟩) (by assumption) ?ror65
                case yor65 =>
                  intro w hSw
                  try dsimp only at hSw
                  first | (go_simp; done) | (go_simp; with_reducible rfl)
                try simp only [Act.put, List.setIfInBounds_toArray, List.set_cons_zero, List.set_cons_succ]
                refine wpAnyH_ready (rs := [2]) (by kernel_rfl) (by simp) ?_
                refine AllReadyH.cons (i := 2) (o := ⟨some 113, _, _, _, _, _⟩) rfl (fun K hK => ?_) AllReadyH.nil
                go_simp
                go_at_call 14
                refine (EQ12.out _ (HEV.out _ hHeld.2.2.2.2.2.2.2.2.2.2.2.2)).mono ?_
                rintro e wp ⟨rfl, hb⟩
                go_wp2_with fail
                refine hK.out _ _ ?_ (fun hHeld => ?_)
                · exact okept (by assumption) hb
                clear hK K
                try simp only [Act.put, List.setIfInBounds_toArray, List.set_cons_zero, List.set_cons_succ]
                refine wpAnyH_take (i := 3) (oi := ⟨some 114, _, _, _, _, _⟩) (v := ?vor63) rfl (by kernel_rfl) (by kernel_rfl) (by kernel_rfl) (fun _ _ _ h => h) (Or.inl ⟨by kernel_rfl, ?yor63⟩) (by assumption) ?ror63
                case yor63 =>
                  intro w hSw
                  try dsimp only at hSw
                  first | (go_simp; done) | (go_simp; with_reducible rfl)
                try simp only [Act.put, List.setIfInBounds_toArray, List.set_cons_zero, List.set_cons_succ]
                refine wpAnyH_ready (rs := [6]) (by kernel_rfl) (by simp) ?_
                refine AllReadyH.cons (i := 6) (o := ⟨some 117, _, _, _, _, _⟩) rfl (fun K hK => ?_) AllReadyH.nil
                go_simp
                go_at_call 31
                refine (RQ.out _).mono ?_
                rintro e wp ⟨rfl, hb⟩
                go_wp2_with fail
                refine hK.out _ _ ?_ (fun hHeld => ?_)
                · exact okept (by assumption) hb
                clear hK K
                try simp only [Act.put, List.setIfInBounds_toArray, List.set_cons_zero, List.set_cons_succ]
                refine wpAnyH_take (i := 7) (oi := ⟨some 118, _, _, _, _, _⟩) (v := ?vor67) rfl (by kernel_rfl) (by kernel_rfl) (by kernel_rfl) (fun _ _ _ h => h) (Or.inl ⟨by kernel_rfl, ?yor67⟩) (by assumption) ?ror67
                case yor67 =>
                  intro w hSw
                  try dsimp only at hSw
                  first | (go_simp; done) | (go_simp; with_reducible rfl)
                try simp only [Act.put, List.setIfInBounds_toArray, List.set_cons_zero, List.set_cons_succ]
                refine wpAnyH_take (i := 8) (oi := ⟨some 119, _, _, _, _, _⟩) (v := ?vor68) rfl (by kernel_rfl) (by kernel_rfl) (by kernel_rfl) (fun _ _ _ h => h) (Or.inl ⟨by kernel_rfl, ?yor68⟩) (by assumption) ?ror68
                case yor68 =>
                  intro w hSw
                  try dsimp only at hSw
                  first | (go_simp; done) | (go_simp; with_reducible rfl)
                try simp only [Act.put, List.setIfInBounds_toArray, List.set_cons_zero, List.set_cons_succ]
                refine wpAnyH_take (i := 9) (oi := ⟨some 120, _, _, _, _, _⟩) (v := ?vor69) rfl (by kernel_rfl) (by kernel_rfl) (by kernel_rfl) (fun _ _ _ h => h) (Or.inl ⟨by kernel_rfl, ?yor69⟩) (by assumption) ?ror69
                case yor69 =>
                  intro w hSw
                  try dsimp only at hSw
                  first | (go_simp; done) | (go_simp; with_reducible rfl)
                try simp only [Act.put, List.setIfInBounds_toArray, List.set_cons_zero, List.set_cons_succ]
                refine wpAnyH_take (i := 10) (oi := ⟨some 121, _, _, _, _, _⟩) (v := ?vor610) rfl (by kernel_rfl) (by kernel_rfl) (by kernel_rfl) (fun _ _ _ h => h) (Or.inl ⟨by kernel_rfl, ?yor610⟩) (by assumption) ?ror610
                case yor610 =>
                  intro w hSw
                  try dsimp only at hSw
                  first | (go_simp; done) | (go_simp; with_reducible rfl)
                try simp only [Act.put, List.setIfInBounds_toArray, List.set_cons_zero, List.set_cons_succ]
                refine wpAnyH_take (i := 12) (oi := ⟨some 123, _, _, _, _, _⟩) (v := ?vor612) rfl (by kernel_rfl) (by kernel_rfl) (by kernel_rfl) (fun _ _ _ h => h) (Or.inl ⟨by kernel_rfl, ?yor612⟩) (by assumption) ?ror612
                case yor612 =>
                  intro w hSw
                  try dsimp only at hSw
                  first | (go_simp; done) | (go_simp; with_reducible rfl)
                try simp only [Act.put, List.setIfInBounds_toArray, List.set_cons_zero, List.set_cons_succ]
                refine wpAnyH_take (i := 13) (oi := ⟨some 124, _, _, _, _, _⟩) (v := ?vor613) rfl (by kernel_rfl) (by kernel_rfl) (by kernel_rfl) (fun _ _ _ h => h) (Or.inl ⟨by kernel_rfl, ?yor613⟩) (by assumption) ?ror613
                case yor613 =>
                  intro w hSw
                  try dsimp only at hSw
                  first | (go_simp; done) | (go_simp; with_reducible rfl)
                try simp only [Act.put, List.setIfInBounds_toArray, List.set_cons_zero, List.set_cons_succ]
                refine wpAnyH_ready (rs := [11]) (by kernel_rfl) (by simp) ?_
                refine AllReadyH.cons (i := 11) (o := ⟨some 122, _, _, _, _, _⟩) rfl (fun K hK => ?_) AllReadyH.nil
                go_simp
                go_at_call 14
                refine (EQ12.out _ (HEV.out _ hHeld.2.2.2.2.2.2.2.2.2.2.2.2)).mono ?_
                rintro e wp ⟨rfl, hb⟩
                go_wp2_with fail
                refine hK.out _ _ ?_ (fun hHeld => ?_)
                · exact okept (by assumption) hb
                clear hK K
                try simp only [Act.put, List.setIfInBounds_toArray, List.set_cons_zero, List.set_cons_succ]
                refine wpAnyH_ready (rs := [14]) (by kernel_rfl) (by simp) ?_
                refine AllReadyH.cons (i := 14) (o := ⟨some 125, _, _, _, _, _⟩) rfl (fun K hK => ?_) AllReadyH.nil
                go_simp
                go_at_call 14
                refine (EQ21.out _ (HEV.out _ hHeld.2.2.2.2.2.2.2.2.2.2.2.2)).mono ?_
                rintro e wp ⟨rfl, hb⟩
                go_wp2_with fail
                refine hK.out _ _ ?_ (fun hHeld => ?_)
                · exact okept (by assumption) hb
                clear hK K
                try simp only [Act.put, List.setIfInBounds_toArray, List.set_cons_zero, List.set_cons_succ]
                refine wpAnyH_take (i := 15) (oi := ⟨some 126, _, _, _, _, _⟩) (v := ?vor615) rfl (by kernel_rfl) (by kernel_rfl) (by kernel_rfl) (fun _ _ _ h => h) (Or.inl ⟨by kernel_rfl, ?yor615⟩) (by assumption) ?ror615
                case yor615 =>
                  intro w hSw
                  try dsimp only at hSw
                  first | (go_simp; done) | (go_simp; with_reducible rfl)
                try simp only [Act.put, List.setIfInBounds_toArray, List.set_cons_zero, List.set_cons_succ]
                refine wpAnyH_take (i := 16) (oi := ⟨some 127, _, _, _, _, _⟩) (v := ?vor616) rfl (by kernel_rfl) (by kernel_rfl) (by kernel_rfl) (fun _ _ _ h => h) (Or.inl ⟨by kernel_rfl, ?yor616⟩) (by assumption) ?ror616
                case yor616 =>
                  intro w hSw
                  try dsimp only at hSw
                  first | (go_simp; done) | (go_simp; with_reducible rfl)
                try simp only [Act.put, List.setIfInBounds_toArray, List.set_cons_zero, List.set_cons_succ]
                refine wpAnyH_take (i := 17) (oi := ⟨some 128, _, _, _, _, _⟩) (v := ?vor617) rfl (by kernel_rfl) (by kernel_rfl) (by kernel_rfl) (fun _ _ _ h => h) (Or.inl ⟨by kernel_rfl, ?yor617⟩) (by assumption) ?ror617
                case yor617 =>
                  intro w hSw
                  try dsimp only at hSw
                  first | (go_simp; done) | (go_simp; with_reducible rfl)
                try simp only [Act.put, List.setIfInBounds_toArray, List.set_cons_zero, List.set_cons_succ]
                refine wpAnyH_take (i := 18) (oi := ⟨some 129, _, _, _, _, _⟩) (v := ?vor618) rfl (by kernel_rfl) (by kernel_rfl) (by kernel_rfl) (fun _ _ _ h => h) (Or.inl ⟨by kernel_rfl, ?yor618⟩) (by assumption) ?ror618
                case yor618 =>
                  intro w hSw
                  try dsimp only at hSw
                  first | (go_simp; done) | (go_simp; with_reducible rfl)
                try simp only [Act.put, List.setIfInBounds_toArray, List.set_cons_zero, List.set_cons_succ]
                refine wpAnyH_take (i := 19) (oi := ⟨some 130, _, _, _, _, _⟩) (v := ?vor619) rfl (by kernel_rfl) (by kernel_rfl) (by kernel_rfl) (fun _ _ _ h => h) (Or.inl ⟨by kernel_rfl, ?yor619⟩) (by assumption) ?ror619
                case yor619 =>
                  intro w hSw
                  try dsimp only at hSw
                  first | (go_simp; done) | (go_simp; with_reducible rfl)
                try simp only [Act.put, List.setIfInBounds_toArray, List.set_cons_zero, List.set_cons_succ]
                refine wpAnyH_ready (rs := [20]) (by kernel_rfl) (by simp) ?_
                refine AllReadyH.cons (i := 20) (o := ⟨some 131, _, _, _, _, _⟩) rfl (fun K hK => ?_) AllReadyH.nil
                go_simp
                go_at_call 14
                refine (EQ11.out _ (HEV.out _ hHeld.2.2.2.2.2.2.2.2.2.2.2.2)).mono ?_
                rintro e wp ⟨rfl, hb⟩
                go_wp2_with fail
                refine hK.out _ _ ?_ (fun hHeld => ?_)
                · exact okept (by assumption) hb
                clear hK K
                try simp only [Act.put, List.setIfInBounds_toArray, List.set_cons_zero, List.set_cons_succ]
                refine wpAnyH_take (i := 21) (oi := ⟨some 132, _, _, _, _, _⟩) (v := ?vor621) rfl (by kernel_rfl) (by kernel_rfl) (by kernel_rfl) (fun _ _ _ h => h) (Or.inl ⟨by kernel_rfl, ?yor621⟩) (by assumption) ?ror621
                case yor621 =>
                  intro w hSw
                  try dsimp only at hSw
                  first | (go_simp; done) | (go_simp; with_reducible rfl)
                try simp only [Act.put, List.setIfInBounds_toArray, List.set_cons_zero, List.set_cons_succ]
                refine wpAnyH_take (i := 22) (oi := ⟨some 133, _, _, _, _, _⟩) (v := ?vor622) rfl (by kernel_rfl) (by kernel_rfl) (by kernel_rfl) (fun _ _ _ h => h) (Or.inl ⟨by kernel_rfl, ?yor622⟩) (by assumption) ?ror622
                case yor622 =>
                  intro w hSw
                  try dsimp only at hSw
                  first | (go_simp; done) | (go_simp; with_reducible rfl)
                try simp only [Act.put, List.setIfInBounds_toArray, List.set_cons_zero, List.set_cons_succ]
                refine wpAnyH_take (i := 23) (oi := ⟨some 6, _, _, _, _, _⟩) (v := ?vor623) rfl (by kernel_rfl) (by kernel_rfl) (by kernel_rfl) (fun _ _ _ h => h) (Or.inl ⟨by kernel_rfl, ?yor623⟩) (by assumption) ?ror623
                case yor623 =>
                  intro w hSw
                  try dsimp only at hSw
                  first | (go_simp; done) | (go_simp; with_reducible rfl)
                try simp only [Act.put, List.setIfInBounds_toArray, List.set_cons_zero, List.set_cons_succ]
                refine wpAnyH_done (by kernel_rfl) ?_ _
                have HZZ := Lib.hid hHeld.2.2.2.2.2.2.2.2.2.2.2.2
                go_wp2_with fail
                go_ret
                exact ⟨rfl, HZZ.out⟩
              · have ho2' : ¬ o2 ≤ 0 := ho2
                obtain ⟨c0, c1, c2, c3, c4, c5, c6, c7, c8, c9, c10, c11, cz⟩ := HX.out
                go_wp2_with fail
                refine (O23.out _).mono ?_
                rintro e wn ⟨rfl, hbn⟩
                replace HX := Lib.hid (okept HX.out hbn)
                clear hbn cz c0 c1 c2 c3 c4 c5 c6 c7 c8 c9 c10 c11
                rw [HQ.out (by omega) (by omega)] at RQ
                rw [HE1.out (by omega)] at EQ11
                obtain ⟨ev0, ev1⟩ := HQV.out
                have hwr : IntKind.i64.wrap eV = eV := IntWalk.i64_in _ (by omega)
                obtain ⟨c0, c1, c2, c3, c4, c5, c6, c7, c8, c9, c10, c11, cz⟩ := HX.out
                go_wp2_with fail
                refine wp_region_held_drew (S := fun w' => w'.cell? ⟨g7, 0, none⟩ = some (.int .i64 K1) ∧ w'.cell? ⟨g7, 1, none⟩ = some (.string A1) ∧ w'.cell? ⟨g7, 2, none⟩ = some (.string B1) ∧ w'.cell? ⟨g7, 3, none⟩ = some (.string C1) ∧ w'.cell? ⟨g8, 0, none⟩ = some (.int .i64 K1) ∧ w'.cell? ⟨g8, 1, none⟩ = some (.string A2) ∧ w'.cell? ⟨g8, 2, none⟩ = some (.string B2) ∧ w'.cell? ⟨g8, 3, none⟩ = some (.string C2) ∧ w'.cell? ⟨g9, 0, none⟩ = some (.int .i64 K3) ∧ w'.cell? ⟨g9, 1, none⟩ = some (.string A3) ∧ w'.cell? ⟨g9, 2, none⟩ = some (.string B3) ∧ w'.cell? ⟨g9, 3, none⟩ = some (.string C3) ∧ Below w.heap.size w w') (by kernel_rfl) ?hSor70 (fun hHeld => ?_)
                case hSor70 => exact ⟨c0, c1, c2, c3, c4, c5, c6, c7, c8, c9, c10, c11, cz.drew⟩
                refine wpAnyH_take (i := 0) (oi := ⟨some 111, _, _, _, _, _⟩) (v := ?vor70) rfl (by kernel_rfl) (by kernel_rfl) (by kernel_rfl) (fun _ _ _ h => h) (Or.inl ⟨by kernel_rfl, ?yor70⟩) (by assumption) ?ror70
                case yor70 =>
                  intro w hSw
                  try dsimp only at hSw
                  first | (go_simp; done) | (go_simp; with_reducible rfl)
                try simp only [Act.put, List.setIfInBounds_toArray, List.set_cons_zero, List.set_cons_succ]
                refine wpAnyH_take (i := 1) (oi := ⟨some 112, _, _, _, _, _⟩) (v := ?vor71) rfl (by kernel_rfl) (by kernel_rfl) (by kernel_rfl) (fun _ _ _ h => h) (Or.inl ⟨by kernel_rfl, ?yor71⟩) (by assumption) ?ror71
                case yor71 =>
                  intro w hSw
                  try dsimp only at hSw
                  first | (go_simp; done) | (go_simp; with_reducible rfl)
                try simp only [Act.put, List.setIfInBounds_toArray, List.set_cons_zero, List.set_cons_succ]
                refine wpAnyH_take (i := 4) (oi := ⟨some 115, _, _, _, _, _⟩) (v := ?vor74) rfl (by kernel_rfl) (by kernel_rfl) (by kernel_rfl) (fun _ _ _ h => h) (Or.inl ⟨by kernel_rfl, ?yor74⟩) (by assumption) ?ror74
                case yor74 =>
                  intro w hSw
                  try dsimp only at hSw
                  first | (go_simp; done) | (go_simp; with_reducible rfl)
                try simp only [Act.put, List.setIfInBounds_toArray, List.set_cons_zero, List.set_cons_succ]
                refine wpAnyH_take (i := 5) (oi := ⟨some 116, _, _, _, _, _⟩) (v := ?vor75) rfl (by kernel_rfl) (by kernel_rfl) (by kernel_rfl) (fun _ _ _ h => h) (Or.inl ⟨by kernel_rfl, ?yor75⟩) (by assumption) ?ror75
                case yor75 =>
                  intro w hSw
                  try dsimp only at hSw
                  first | (go_simp; done) | (go_simp; with_reducible rfl)
                try simp only [Act.put, List.setIfInBounds_toArray, List.set_cons_zero, List.set_cons_succ]
                refine wpAnyH_ready (rs := [2]) (by kernel_rfl) (by simp) ?_
                refine AllReadyH.cons (i := 2) (o := ⟨some 113, _, _, _, _, _⟩) rfl (fun K hK => ?_) AllReadyH.nil
                go_simp
                go_at_call 14
                refine (EQ12.out _ (HEV.out _ hHeld.2.2.2.2.2.2.2.2.2.2.2.2)).mono ?_
                rintro e wp ⟨rfl, hb⟩
                go_wp2_with fail
                refine hK.out _ _ ?_ (fun hHeld => ?_)
                · exact okept (by assumption) hb
                clear hK K
                try simp only [Act.put, List.setIfInBounds_toArray, List.set_cons_zero, List.set_cons_succ]
                refine wpAnyH_take (i := 3) (oi := ⟨some 114, _, _, _, _, _⟩) (v := ?vor73) rfl (by kernel_rfl) (by kernel_rfl) (by kernel_rfl) (fun _ _ _ h => h) (Or.inl ⟨by kernel_rfl, ?yor73⟩) (by assumption) ?ror73
                case yor73 =>
                  intro w hSw
                  try dsimp only at hSw
                  first | (go_simp; done) | (go_simp; with_reducible rfl)
                try simp only [Act.put, List.setIfInBounds_toArray, List.set_cons_zero, List.set_cons_succ]
                refine wpAnyH_ready (rs := [6]) (by kernel_rfl) (by simp) ?_
                refine AllReadyH.cons (i := 6) (o := ⟨some 117, _, _, _, _, _⟩) rfl (fun K hK => ?_) AllReadyH.nil
                go_simp
                go_at_call 31
                refine (RQ.out _).mono ?_
                rintro e wp ⟨rfl, hb⟩
                go_wp2_with fail
                refine hK.out _ _ ?_ (fun hHeld => ?_)
                · exact okept (by assumption) hb
                clear hK K
                try simp only [Act.put, List.setIfInBounds_toArray, List.set_cons_zero, List.set_cons_succ]
                refine wpAnyH_take (i := 7) (oi := ⟨some 118, _, _, _, _, _⟩) (v := ?vor77) rfl (by kernel_rfl) (by kernel_rfl) (by kernel_rfl) (fun _ _ _ h => h) (Or.inl ⟨by kernel_rfl, ?yor77⟩) (by assumption) ?ror77
                case yor77 =>
                  intro w hSw
                  try dsimp only at hSw
                  first | (go_simp; done) | (go_simp; with_reducible rfl)
                try simp only [Act.put, List.setIfInBounds_toArray, List.set_cons_zero, List.set_cons_succ]
                refine wpAnyH_take (i := 8) (oi := ⟨some 119, _, _, _, _, _⟩) (v := ?vor78) rfl (by kernel_rfl) (by kernel_rfl) (by kernel_rfl) (fun _ _ _ h => h) (Or.inl ⟨by kernel_rfl, ?yor78⟩) (by assumption) ?ror78
                case yor78 =>
                  intro w hSw
                  try dsimp only at hSw
                  first | (go_simp; done) | (go_simp; with_reducible rfl)
                try simp only [Act.put, List.setIfInBounds_toArray, List.set_cons_zero, List.set_cons_succ]
                refine wpAnyH_take (i := 9) (oi := ⟨some 120, _, _, _, _, _⟩) (v := ?vor79) rfl (by kernel_rfl) (by kernel_rfl) (by kernel_rfl) (fun _ _ _ h => h) (Or.inl ⟨by kernel_rfl, ?yor79⟩) (by assumption) ?ror79
                case yor79 =>
                  intro w hSw
                  try dsimp only at hSw
                  first | (go_simp; done) | (go_simp; with_reducible rfl)
                try simp only [Act.put, List.setIfInBounds_toArray, List.set_cons_zero, List.set_cons_succ]
                refine wpAnyH_take (i := 10) (oi := ⟨some 121, _, _, _, _, _⟩) (v := ?vor710) rfl (by kernel_rfl) (by kernel_rfl) (by kernel_rfl) (fun _ _ _ h => h) (Or.inl ⟨by kernel_rfl, ?yor710⟩) (by assumption) ?ror710
                case yor710 =>
                  intro w hSw
                  try dsimp only at hSw
                  first | (go_simp; done) | (go_simp; with_reducible rfl)
                try simp only [Act.put, List.setIfInBounds_toArray, List.set_cons_zero, List.set_cons_succ]
                refine wpAnyH_take (i := 12) (oi := ⟨some 123, _, _, _, _, _⟩) (v := ?vor712) rfl (by kernel_rfl) (by kernel_rfl) (by kernel_rfl) (fun _ _ _ h => h) (Or.inl ⟨by kernel_rfl, ?yor712⟩) (by assumption) ?ror712
                case yor712 =>
                  intro w hSw
                  try dsimp only at hSw
                  first | (go_simp; done) | (go_simp; with_reducible rfl)
                try simp only [Act.put, List.setIfInBounds_toArray, List.set_cons_zero, List.set_cons_succ]
                refine wpAnyH_take (i := 13) (oi := ⟨some 124, _, _, _, _, _⟩) (v := ?vor713) rfl (by kernel_rfl) (by kernel_rfl) (by kernel_rfl) (fun _ _ _ h => h) (Or.inl ⟨by kernel_rfl, ?yor713⟩) (by assumption) ?ror713
                case yor713 =>
                  intro w hSw
                  try dsimp only at hSw
                  first | (go_simp; done) | (go_simp; with_reducible rfl)
                try simp only [Act.put, List.setIfInBounds_toArray, List.set_cons_zero, List.set_cons_succ]
                refine wpAnyH_ready (rs := [11]) (by kernel_rfl) (by simp) ?_
                refine AllReadyH.cons (i := 11) (o := ⟨some 122, _, _, _, _, _⟩) rfl (fun K hK => ?_) AllReadyH.nil
                go_simp
                go_at_call 14
                refine (EQ12.out _ (HEV.out _ hHeld.2.2.2.2.2.2.2.2.2.2.2.2)).mono ?_
                rintro e wp ⟨rfl, hb⟩
                go_wp2_with fail
                refine hK.out _ _ ?_ (fun hHeld => ?_)
                · exact okept (by assumption) hb
                clear hK K
                try simp only [Act.put, List.setIfInBounds_toArray, List.set_cons_zero, List.set_cons_succ]
                refine wpAnyH_ready (rs := [14]) (by kernel_rfl) (by simp) ?_
                refine AllReadyH.cons (i := 14) (o := ⟨some 125, _, _, _, _, _⟩) rfl (fun K hK => ?_) AllReadyH.nil
                go_simp
                go_at_call 14
                refine (EQ21.out _ (HEV.out _ hHeld.2.2.2.2.2.2.2.2.2.2.2.2)).mono ?_
                rintro e wp ⟨rfl, hb⟩
                go_wp2_with fail
                refine hK.out _ _ ?_ (fun hHeld => ?_)
                · exact okept (by assumption) hb
                clear hK K
                try simp only [Act.put, List.setIfInBounds_toArray, List.set_cons_zero, List.set_cons_succ]
                refine wpAnyH_take (i := 15) (oi := ⟨some 126, _, _, _, _, _⟩) (v := ?vor715) rfl (by kernel_rfl) (by kernel_rfl) (by kernel_rfl) (fun _ _ _ h => h) (Or.inl ⟨by kernel_rfl, ?yor715⟩) (by assumption) ?ror715
                case yor715 =>
                  intro w hSw
                  try dsimp only at hSw
                  first | (go_simp; done) | (go_simp; with_reducible rfl)
                try simp only [Act.put, List.setIfInBounds_toArray, List.set_cons_zero, List.set_cons_succ]
                refine wpAnyH_take (i := 16) (oi := ⟨some 127, _, _, _, _, _⟩) (v := ?vor716) rfl (by kernel_rfl) (by kernel_rfl) (by kernel_rfl) (fun _ _ _ h => h) (Or.inl ⟨by kernel_rfl, ?yor716⟩) (by assumption) ?ror716
                case yor716 =>
                  intro w hSw
                  try dsimp only at hSw
                  first | (go_simp; done) | (go_simp; with_reducible rfl)
                try simp only [Act.put, List.setIfInBounds_toArray, List.set_cons_zero, List.set_cons_succ]
                refine wpAnyH_take (i := 17) (oi := ⟨some 128, _, _, _, _, _⟩) (v := ?vor717) rfl (by kernel_rfl) (by kernel_rfl) (by kernel_rfl) (fun _ _ _ h => h) (Or.inl ⟨by kernel_rfl, ?yor717⟩) (by assumption) ?ror717
                case yor717 =>
                  intro w hSw
                  try dsimp only at hSw
                  first | (go_simp; done) | (go_simp; with_reducible rfl)
                try simp only [Act.put, List.setIfInBounds_toArray, List.set_cons_zero, List.set_cons_succ]
                refine wpAnyH_take (i := 18) (oi := ⟨some 129, _, _, _, _, _⟩) (v := ?vor718) rfl (by kernel_rfl) (by kernel_rfl) (by kernel_rfl) (fun _ _ _ h => h) (Or.inl ⟨by kernel_rfl, ?yor718⟩) (by assumption) ?ror718
                case yor718 =>
                  intro w hSw
                  try dsimp only at hSw
                  first | (go_simp; done) | (go_simp; with_reducible rfl)
                try simp only [Act.put, List.setIfInBounds_toArray, List.set_cons_zero, List.set_cons_succ]
                refine wpAnyH_take (i := 19) (oi := ⟨some 130, _, _, _, _, _⟩) (v := ?vor719) rfl (by kernel_rfl) (by kernel_rfl) (by kernel_rfl) (fun _ _ _ h => h) (Or.inl ⟨by kernel_rfl, ?yor719⟩) (by assumption) ?ror719
                case yor719 =>
                  intro w hSw
                  try dsimp only at hSw
                  first | (go_simp; done) | (go_simp; with_reducible rfl)
                try simp only [Act.put, List.setIfInBounds_toArray, List.set_cons_zero, List.set_cons_succ]
                refine wpAnyH_ready (rs := [20]) (by kernel_rfl) (by simp) ?_
                refine AllReadyH.cons (i := 20) (o := ⟨some 131, _, _, _, _, _⟩) rfl (fun K hK => ?_) AllReadyH.nil
                go_simp
                go_at_call 14
                refine (EQ11.out _ (HEV.out _ hHeld.2.2.2.2.2.2.2.2.2.2.2.2)).mono ?_
                rintro e wp ⟨rfl, hb⟩
                go_wp2_with fail
                refine hK.out _ _ ?_ (fun hHeld => ?_)
                · exact okept (by assumption) hb
                clear hK K
                try simp only [Act.put, List.setIfInBounds_toArray, List.set_cons_zero, List.set_cons_succ]
                refine wpAnyH_take (i := 21) (oi := ⟨some 132, _, _, _, _, _⟩) (v := ?vor721) rfl (by kernel_rfl) (by kernel_rfl) (by kernel_rfl) (fun _ _ _ h => h) (Or.inl ⟨by kernel_rfl, ?yor721⟩) (by assumption) ?ror721
                case yor721 =>
                  intro w hSw
                  try dsimp only at hSw
                  first | (go_simp; done) | (go_simp; with_reducible rfl)
                try simp only [Act.put, List.setIfInBounds_toArray, List.set_cons_zero, List.set_cons_succ]
                refine wpAnyH_take (i := 22) (oi := ⟨some 133, _, _, _, _, _⟩) (v := ?vor722) rfl (by kernel_rfl) (by kernel_rfl) (by kernel_rfl) (fun _ _ _ h => h) (Or.inl ⟨by kernel_rfl, ?yor722⟩) (by assumption) ?ror722
                case yor722 =>
                  intro w hSw
                  try dsimp only at hSw
                  first | (go_simp; done) | (go_simp; with_reducible rfl)
                try simp only [Act.put, List.setIfInBounds_toArray, List.set_cons_zero, List.set_cons_succ]
                refine wpAnyH_take (i := 23) (oi := ⟨some 6, _, _, _, _, _⟩) (v := ?vor723) rfl (by kernel_rfl) (by kernel_rfl) (by kernel_rfl) (fun _ _ _ h => h) (Or.inl ⟨by kernel_rfl, ?yor723⟩) (by assumption) ?ror723
                case yor723 =>
                  intro w hSw
                  try dsimp only at hSw
                  first | (go_simp; done) | (go_simp; with_reducible rfl)
                try simp only [Act.put, List.setIfInBounds_toArray, List.set_cons_zero, List.set_cons_succ]
                refine wpAnyH_done (by kernel_rfl) ?_ _
                have HZZ := Lib.hid hHeld.2.2.2.2.2.2.2.2.2.2.2.2
                go_wp2_with fail
                go_ret
                exact ⟨rfl, HZZ.out⟩
            · rw [decide_eq_false k13] at SM
              have q0 : decide (K1 < 3) = false := decide_eq_false k13
              have q1 : (K1 == 3) = true := by rw [beq_iff_eq]; omega
              obtain ⟨c0, c1, c2, c3, c4, c5, c6, c7, c8, c9, c10, c11, cz⟩ := HX.out
              go_wp2_with fail
              refine (O12.out _).mono ?_
              rintro e wn ⟨rfl, hbn⟩
              replace HX := Lib.hid (okept HX.out hbn)
              clear hbn cz c0 c1 c2 c3 c4 c5 c6 c7 c8 c9 c10 c11
              obtain ⟨c0, c1, c2, c3, c4, c5, c6, c7, c8, c9, c10, c11, cz⟩ := HX.out
              go_wp2_with fail
              refine (L12.out _).mono ?_
              rintro e wn ⟨rfl, hbn⟩
              replace HX := Lib.hid (okept HX.out hbn)
              clear hbn cz c0 c1 c2 c3 c4 c5 c6 c7 c8 c9 c10 c11
              obtain ⟨c0, c1, c2, c3, c4, c5, c6, c7, c8, c9, c10, c11, cz⟩ := HX.out
              go_wp2_with fail
              refine (L21.out _).mono ?_
              rintro e wn ⟨rfl, hbn⟩
              replace HX := Lib.hid (okept HX.out hbn)
              clear hbn cz c0 c1 c2 c3 c4 c5 c6 c7 c8 c9 c10 c11
              obtain ⟨c0, c1, c2, c3, c4, c5, c6, c7, c8, c9, c10, c11, cz⟩ := HX.out
              go_wp2_with fail
              refine wp_region_held_drew (S := fun w' => w'.cell? ⟨g7, 0, none⟩ = some (.int .i64 K1) ∧ w'.cell? ⟨g7, 1, none⟩ = some (.string A1) ∧ w'.cell? ⟨g7, 2, none⟩ = some (.string B1) ∧ w'.cell? ⟨g7, 3, none⟩ = some (.string C1) ∧ w'.cell? ⟨g8, 0, none⟩ = some (.int .i64 K1) ∧ w'.cell? ⟨g8, 1, none⟩ = some (.string A2) ∧ w'.cell? ⟨g8, 2, none⟩ = some (.string B2) ∧ w'.cell? ⟨g8, 3, none⟩ = some (.string C2) ∧ w'.cell? ⟨g9, 0, none⟩ = some (.int .i64 K3) ∧ w'.cell? ⟨g9, 1, none⟩ = some (.string A3) ∧ w'.cell? ⟨g9, 2, none⟩ = some (.string B3) ∧ w'.cell? ⟨g9, 3, none⟩ = some (.string C3) ∧ Below w.heap.size w w') (by kernel_rfl) ?hSor80 (fun hHeld => ?_)
              case hSor80 => exact ⟨c0, c1, c2, c3, c4, c5, c6, c7, c8, c9, c10, c11, cz.drew⟩
              refine wpAnyH_take (i := 0) (oi := ⟨some 56, _, _, _, _, _⟩) (v := ?vor80) rfl (by kernel_rfl) (by kernel_rfl) (by kernel_rfl) (fun _ _ _ h => h) (Or.inl ⟨by kernel_rfl, ?yor80⟩) (by assumption) ?ror80
              case yor80 =>
                intro w hSw
                try dsimp only at hSw
                first | (go_simp; done) | (go_simp; with_reducible rfl)
              try simp only [Act.put, List.setIfInBounds_toArray, List.set_cons_zero, List.set_cons_succ]
              refine wpAnyH_take (i := 1) (oi := ⟨some 57, _, _, _, _, _⟩) (v := ?vor81) rfl (by kernel_rfl) (by kernel_rfl) (by kernel_rfl) (fun _ _ _ h => h) (Or.inl ⟨by kernel_rfl, ?yor81⟩) (by assumption) ?ror81
              case yor81 =>
                intro w hSw
                try dsimp only at hSw
                first | (go_simp; done) | (go_simp; with_reducible rfl)
              try simp only [Act.put, List.setIfInBounds_toArray, List.set_cons_zero, List.set_cons_succ]
              refine wpAnyH_take (i := 2) (oi := ⟨some 58, _, _, _, _, _⟩) (v := ?vor82) rfl (by kernel_rfl) (by kernel_rfl) (by kernel_rfl) (fun _ _ _ h => h) (Or.inl ⟨by kernel_rfl, ?yor82⟩) (by assumption) ?ror82
              case yor82 =>
                intro w hSw
                try dsimp only at hSw
                first | (go_simp; done) | (go_simp; with_reducible rfl)
              try simp only [Act.put, List.setIfInBounds_toArray, List.set_cons_zero, List.set_cons_succ]
              refine wpAnyH_take (i := 3) (oi := ⟨some 59, _, _, _, _, _⟩) (v := ?vor83) rfl (by kernel_rfl) (by kernel_rfl) (by kernel_rfl) (fun _ _ _ h => h) (Or.inl ⟨by kernel_rfl, ?yor83⟩) (by assumption) ?ror83
              case yor83 =>
                intro w hSw
                try dsimp only at hSw
                first | (go_simp; done) | (go_simp; with_reducible rfl)
              try simp only [Act.put, List.setIfInBounds_toArray, List.set_cons_zero, List.set_cons_succ]
              refine wpAnyH_take (i := 4) (oi := ⟨some 60, _, _, _, _, _⟩) (v := ?vor84) rfl (by kernel_rfl) (by kernel_rfl) (by kernel_rfl) (fun _ _ _ h => h) (Or.inl ⟨by kernel_rfl, ?yor84⟩) (by assumption) ?ror84
              case yor84 =>
                intro w hSw
                try dsimp only at hSw
                first | (go_simp; done) | (go_simp; with_reducible rfl)
              try simp only [Act.put, List.setIfInBounds_toArray, List.set_cons_zero, List.set_cons_succ]
              refine wpAnyH_take (i := 5) (oi := ⟨some 61, _, _, _, _, _⟩) (v := ?vor85) rfl (by kernel_rfl) (by kernel_rfl) (by kernel_rfl) (fun _ _ _ h => h) (Or.inl ⟨by kernel_rfl, ?yor85⟩) (by assumption) ?ror85
              case yor85 =>
                intro w hSw
                try dsimp only at hSw
                first | (go_simp; done) | (go_simp; with_reducible rfl)
              try simp only [Act.put, List.setIfInBounds_toArray, List.set_cons_zero, List.set_cons_succ]
              refine wpAnyH_take (i := 7) (oi := ⟨some 63, _, _, _, _, _⟩) (v := ?vor87) rfl (by kernel_rfl) (by kernel_rfl) (by kernel_rfl) (fun _ _ _ h => h) (Or.inl ⟨by kernel_rfl, ?yor87⟩) (by assumption) ?ror87
              case yor87 =>
                intro w hSw
                try dsimp only at hSw
                first | (go_simp; done) | (go_simp; with_reducible rfl)
              try simp only [Act.put, List.setIfInBounds_toArray, List.set_cons_zero, List.set_cons_succ]
              refine wpAnyH_take (i := 8) (oi := ⟨some 64, _, _, _, _, _⟩) (v := ?vor88) rfl (by kernel_rfl) (by kernel_rfl) (by kernel_rfl) (fun _ _ _ h => h) (Or.inl ⟨by kernel_rfl, ?yor88⟩) (by assumption) ?ror88
              case yor88 =>
                intro w hSw
                try dsimp only at hSw
                first | (go_simp; done) | (go_simp; with_reducible rfl)
              try simp only [Act.put, List.setIfInBounds_toArray, List.set_cons_zero, List.set_cons_succ]
              refine wpAnyH_ready (rs := [6]) (by kernel_rfl) (by simp) ?_
              refine AllReadyH.cons (i := 6) (o := ⟨some 62, _, _, _, _, _⟩) rfl (fun K hK => ?_) AllReadyH.nil
              go_simp
              go_at_call 29
              refine (O21.out _).mono ?_
              rintro e wp ⟨rfl, hb⟩
              go_wp2_with fail
              refine hK.out _ _ ?_ (fun hHeld => ?_)
              · exact okept (by assumption) hb
              clear hK K
              try simp only [Act.put, List.setIfInBounds_toArray, List.set_cons_zero, List.set_cons_succ]
              refine wpAnyH_take (i := 9) (oi := ⟨some 65, _, _, _, _, _⟩) (v := ?vor89) rfl (by kernel_rfl) (by kernel_rfl) (by kernel_rfl) (fun _ _ _ h => h) (Or.inl ⟨by kernel_rfl, ?yor89⟩) (by assumption) ?ror89
              case yor89 =>
                intro w hSw
                try dsimp only at hSw
                first | (go_simp; done) | (go_simp; with_reducible rfl)
              try simp only [Act.put, List.setIfInBounds_toArray, List.set_cons_zero, List.set_cons_succ]
              refine wpAnyH_take (i := 10) (oi := ⟨some 66, _, _, _, _, _⟩) (v := ?vor810) rfl (by kernel_rfl) (by kernel_rfl) (by kernel_rfl) (fun _ _ _ h => h) (Or.inl ⟨by kernel_rfl, ?yor810⟩) (by assumption) ?ror810
              case yor810 =>
                intro w hSw
                try dsimp only at hSw
                first | (go_simp; done) | (go_simp; with_reducible rfl)
              try simp only [Act.put, List.setIfInBounds_toArray, List.set_cons_zero, List.set_cons_succ]
              refine wpAnyH_take (i := 11) (oi := ⟨some 67, _, _, _, _, _⟩) (v := ?vor811) rfl (by kernel_rfl) (by kernel_rfl) (by kernel_rfl) (fun _ _ _ h => h) (Or.inl ⟨by kernel_rfl, ?yor811⟩) (by assumption) ?ror811
              case yor811 =>
                intro w hSw
                try dsimp only at hSw
                first | (go_simp; done) | (go_simp; with_reducible rfl)
              try simp only [Act.put, List.setIfInBounds_toArray, List.set_cons_zero, List.set_cons_succ]
              refine wpAnyH_take (i := 12) (oi := ⟨some 68, _, _, _, _, _⟩) (v := ?vor812) rfl (by kernel_rfl) (by kernel_rfl) (by kernel_rfl) (fun _ _ _ h => h) (Or.inl ⟨by kernel_rfl, ?yor812⟩) (by assumption) ?ror812
              case yor812 =>
                intro w hSw
                try dsimp only at hSw
                first | (go_simp; done) | (go_simp; with_reducible rfl)
              try simp only [Act.put, List.setIfInBounds_toArray, List.set_cons_zero, List.set_cons_succ]
              refine wpAnyH_take (i := 13) (oi := ⟨some 69, _, _, _, _, _⟩) (v := ?vor813) rfl (by kernel_rfl) (by kernel_rfl) (by kernel_rfl) (fun _ _ _ h => h) (Or.inl ⟨by kernel_rfl, ?yor813⟩) (by assumption) ?ror813
              case yor813 =>
                intro w hSw
                try dsimp only at hSw
                first | (go_simp; done) | (go_simp; with_reducible rfl)
              try simp only [Act.put, List.setIfInBounds_toArray, List.set_cons_zero, List.set_cons_succ]
              refine wpAnyH_take (i := 15) (oi := ⟨some 71, _, _, _, _, _⟩) (v := ?vor815) rfl (by kernel_rfl) (by kernel_rfl) (by kernel_rfl) (fun _ _ _ h => h) (Or.inl ⟨by kernel_rfl, ?yor815⟩) (by assumption) ?ror815
              case yor815 =>
                intro w hSw
                try dsimp only at hSw
                first | (go_simp; done) | (go_simp; with_reducible rfl)
              try simp only [Act.put, List.setIfInBounds_toArray, List.set_cons_zero, List.set_cons_succ]
              refine wpAnyH_take (i := 16) (oi := ⟨some 72, _, _, _, _, _⟩) (v := ?vor816) rfl (by kernel_rfl) (by kernel_rfl) (by kernel_rfl) (fun _ _ _ h => h) (Or.inl ⟨by kernel_rfl, ?yor816⟩) (by assumption) ?ror816
              case yor816 =>
                intro w hSw
                try dsimp only at hSw
                first | (go_simp; done) | (go_simp; with_reducible rfl)
              try simp only [Act.put, List.setIfInBounds_toArray, List.set_cons_zero, List.set_cons_succ]
              refine wpAnyH_take (i := 17) (oi := ⟨some 73, _, _, _, _, _⟩) (v := ?vor817) rfl (by kernel_rfl) (by kernel_rfl) (by kernel_rfl) (fun _ _ _ h => h) (Or.inl ⟨by kernel_rfl, ?yor817⟩) (by assumption) ?ror817
              case yor817 =>
                intro w hSw
                try dsimp only at hSw
                first | (go_simp; done) | (go_simp; with_reducible rfl)
              try simp only [Act.put, List.setIfInBounds_toArray, List.set_cons_zero, List.set_cons_succ]
              refine wpAnyH_ready (rs := [14]) (by kernel_rfl) (by simp) ?_
              refine AllReadyH.cons (i := 14) (o := ⟨some 70, _, _, _, _, _⟩) rfl (fun K hK => ?_) AllReadyH.nil
              go_simp
              go_at_call 27
              refine (SM.out _).mono ?_
              rintro e wp ⟨rfl, hb⟩
              go_wp2_with fail
              refine hK.out _ _ ?_ (fun hHeld => ?_)
              · exact okept (by assumption) hb
              clear hK K
              try simp only [Act.put, List.setIfInBounds_toArray, List.set_cons_zero, List.set_cons_succ]
              refine wpAnyH_take (i := 18) (oi := ⟨some 74, _, _, _, _, _⟩) (v := ?vor818) rfl (by kernel_rfl) (by kernel_rfl) (by kernel_rfl) (fun _ _ _ h => h) (Or.inl ⟨by kernel_rfl, ?yor818⟩) (by assumption) ?ror818
              case yor818 =>
                intro w hSw
                try dsimp only at hSw
                first | (go_simp; done) | (go_simp; with_reducible rfl)
              try simp only [Act.put, List.setIfInBounds_toArray, List.set_cons_zero, List.set_cons_succ]
              refine wpAnyH_take (i := 19) (oi := ⟨some 75, _, _, _, _, _⟩) (v := ?vor819) rfl (by kernel_rfl) (by kernel_rfl) (by kernel_rfl) (fun _ _ _ h => h) (Or.inl ⟨by kernel_rfl, ?yor819⟩) (by assumption) ?ror819
              case yor819 =>
                intro w hSw
                try dsimp only at hSw
                first | (go_simp; done) | (go_simp; with_reducible rfl)
              try simp only [Act.put, List.setIfInBounds_toArray, List.set_cons_zero, List.set_cons_succ]
              refine wpAnyH_take (i := 20) (oi := ⟨some 76, _, _, _, _, _⟩) (v := ?vor820) rfl (by kernel_rfl) (by kernel_rfl) (by kernel_rfl) (fun _ _ _ h => h) (Or.inl ⟨by kernel_rfl, ?yor820⟩) (by assumption) ?ror820
              case yor820 =>
                intro w hSw
                try dsimp only at hSw
                first | (go_simp; done) | (go_simp; with_reducible rfl)
              try simp only [Act.put, List.setIfInBounds_toArray, List.set_cons_zero, List.set_cons_succ]
              refine wpAnyH_take (i := 21) (oi := ⟨some 77, _, _, _, _, _⟩) (v := ?vor821) rfl (by kernel_rfl) (by kernel_rfl) (by kernel_rfl) (fun _ _ _ h => h) (Or.inl ⟨by kernel_rfl, ?yor821⟩) (by assumption) ?ror821
              case yor821 =>
                intro w hSw
                try dsimp only at hSw
                first | (go_simp; done) | (go_simp; with_reducible rfl)
              try simp only [Act.put, List.setIfInBounds_toArray, List.set_cons_zero, List.set_cons_succ]
              refine wpAnyH_take (i := 22) (oi := ⟨some 78, _, _, _, _, _⟩) (v := ?vor822) rfl (by kernel_rfl) (by kernel_rfl) (by kernel_rfl) (fun _ _ _ h => h) (Or.inl ⟨by kernel_rfl, ?yor822⟩) (by assumption) ?ror822
              case yor822 =>
                intro w hSw
                try dsimp only at hSw
                first | (go_simp; done) | (go_simp; with_reducible rfl)
              try simp only [Act.put, List.setIfInBounds_toArray, List.set_cons_zero, List.set_cons_succ]
              refine wpAnyH_take (i := 23) (oi := ⟨some 79, _, _, _, _, _⟩) (v := ?vor823) rfl (by kernel_rfl) (by kernel_rfl) (by kernel_rfl) (fun _ _ _ h => h) (Or.inl ⟨by kernel_rfl, ?yor823⟩) (by assumption) ?ror823
              case yor823 =>
                intro w hSw
                try dsimp only at hSw
                first | (go_simp; done) | (go_simp; with_reducible rfl)
              try simp only [Act.put, List.setIfInBounds_toArray, List.set_cons_zero, List.set_cons_succ]
              refine wpAnyH_take (i := 24) (oi := ⟨some 80, _, _, _, _, _⟩) (v := ?vor824) rfl (by kernel_rfl) (by kernel_rfl) (by kernel_rfl) (fun _ _ _ h => h) (Or.inl ⟨by kernel_rfl, ?yor824⟩) (by assumption) ?ror824
              case yor824 =>
                intro w hSw
                try dsimp only at hSw
                first | (go_simp; done) | (go_simp; with_reducible rfl)
              try simp only [Act.put, List.setIfInBounds_toArray, List.set_cons_zero, List.set_cons_succ]
              refine wpAnyH_take (i := 25) (oi := ⟨some 81, _, _, _, _, _⟩) (v := ?vor825) rfl (by kernel_rfl) (by kernel_rfl) (by kernel_rfl) (fun _ _ _ h => h) (Or.inl ⟨by kernel_rfl, ?yor825⟩) (by assumption) ?ror825
              case yor825 =>
                intro w hSw
                try dsimp only at hSw
                first | (go_simp; done) | (go_simp; with_reducible rfl)
              try simp only [Act.put, List.setIfInBounds_toArray, List.set_cons_zero, List.set_cons_succ]
              refine wpAnyH_take (i := 26) (oi := ⟨some 82, _, _, _, _, _⟩) (v := ?vor826) rfl (by kernel_rfl) (by kernel_rfl) (by kernel_rfl) (fun _ _ _ h => h) (Or.inl ⟨by kernel_rfl, ?yor826⟩) (by assumption) ?ror826
              case yor826 =>
                intro w hSw
                try dsimp only at hSw
                first | (go_simp; done) | (go_simp; with_reducible rfl)
              try simp only [Act.put, List.setIfInBounds_toArray, List.set_cons_zero, List.set_cons_succ]
              refine wpAnyH_take (i := 27) (oi := ⟨some 83, _, _, _, _, _⟩) (v := ?vor827) rfl (by kernel_rfl) (by kernel_rfl) (by kernel_rfl) (fun _ _ _ h => h) (Or.inl ⟨by kernel_rfl, ?yor827⟩) (by assumption) ?ror827
              case yor827 =>
                intro w hSw
                try dsimp only at hSw
                first | (go_simp; done) | (go_simp; with_reducible rfl)
              try simp only [Act.put, List.setIfInBounds_toArray, List.set_cons_zero, List.set_cons_succ]
              refine wpAnyH_take (i := 28) (oi := ⟨some 84, _, _, _, _, _⟩) (v := ?vor828) rfl (by kernel_rfl) (by kernel_rfl) (by kernel_rfl) (fun _ _ _ h => h) (Or.inl ⟨by kernel_rfl, ?yor828⟩) (by assumption) ?ror828
              case yor828 =>
                intro w hSw
                try dsimp only at hSw
                first | (go_simp; done) | (go_simp; with_reducible rfl)
              try simp only [Act.put, List.setIfInBounds_toArray, List.set_cons_zero, List.set_cons_succ]
              refine wpAnyH_take (i := 29) (oi := ⟨some 85, _, _, _, _, _⟩) (v := ?vor829) rfl (by kernel_rfl) (by kernel_rfl) (by kernel_rfl) (fun _ _ _ h => h) (Or.inl ⟨by kernel_rfl, ?yor829⟩) (by assumption) ?ror829
              case yor829 =>
                intro w hSw
                try dsimp only at hSw
                first | (go_simp; done) | (go_simp; with_reducible rfl)
              try simp only [Act.put, List.setIfInBounds_toArray, List.set_cons_zero, List.set_cons_succ]
              refine wpAnyH_take (i := 30) (oi := ⟨some 86, _, _, _, _, _⟩) (v := ?vor830) rfl (by kernel_rfl) (by kernel_rfl) (by kernel_rfl) (fun _ _ _ h => h) (Or.inl ⟨by kernel_rfl, ?yor830⟩) (by assumption) ?ror830
              case yor830 =>
                intro w hSw
                try dsimp only at hSw
                first | (go_simp; done) | (go_simp; with_reducible rfl)
              try simp only [Act.put, List.setIfInBounds_toArray, List.set_cons_zero, List.set_cons_succ]
              refine wpAnyH_take (i := 31) (oi := ⟨some 87, _, _, _, _, _⟩) (v := ?vor831) rfl (by kernel_rfl) (by kernel_rfl) (by kernel_rfl) (fun _ _ _ h => h) (Or.inl ⟨by kernel_rfl, ?yor831⟩) (by assumption) ?ror831
              case yor831 =>
                intro w hSw
                try dsimp only at hSw
                first | (go_simp; done) | (go_simp; with_reducible rfl)
              try simp only [Act.put, List.setIfInBounds_toArray, List.set_cons_zero, List.set_cons_succ]
              refine wpAnyH_take (i := 32) (oi := ⟨some 88, _, _, _, _, _⟩) (v := ?vor832) rfl (by kernel_rfl) (by kernel_rfl) (by kernel_rfl) (fun _ _ _ h => h) (Or.inl ⟨by kernel_rfl, ?yor832⟩) (by assumption) ?ror832
              case yor832 =>
                intro w hSw
                try dsimp only at hSw
                first | (go_simp; done) | (go_simp; with_reducible rfl)
              try simp only [Act.put, List.setIfInBounds_toArray, List.set_cons_zero, List.set_cons_succ]
              refine wpAnyH_done (by kernel_rfl) ?_ _
              replace HX := Lib.hid hHeld
              clear hHeld cz c0 c1 c2 c3 c4 c5 c6 c7 c8 c9 c10 c11
              by_cases ho2 : o2 ≤ 0
              · have ho3 := HTR.out (by omega) ho2
                have ho3' : ¬ 0 < o3 := by omega
                obtain ⟨c0, c1, c2, c3, c4, c5, c6, c7, c8, c9, c10, c11, cz⟩ := HX.out
                go_wp2_with fail
                refine (O23.out _).mono ?_
                rintro e wn ⟨rfl, hbn⟩
                replace HX := Lib.hid (okept HX.out hbn)
                clear hbn cz c0 c1 c2 c3 c4 c5 c6 c7 c8 c9 c10 c11
                obtain ⟨c0, c1, c2, c3, c4, c5, c6, c7, c8, c9, c10, c11, cz⟩ := HX.out
                go_wp2_with fail
                refine (O13.out _).mono ?_
                rintro e wn ⟨rfl, hbn⟩
                replace HX := Lib.hid (okept HX.out hbn)
                clear hbn cz c0 c1 c2 c3 c4 c5 c6 c7 c8 c9 c10 c11
                obtain ⟨c0, c1, c2, c3, c4, c5, c6, c7, c8, c9, c10, c11, cz⟩ := HX.out
                go_wp2_with fail
                go_ret
                exact ⟨rfl, cz⟩
              · have ho2' : ¬ o2 ≤ 0 := ho2
                obtain ⟨c0, c1, c2, c3, c4, c5, c6, c7, c8, c9, c10, c11, cz⟩ := HX.out
                go_wp2_with fail
                refine (O23.out _).mono ?_
                rintro e wn ⟨rfl, hbn⟩
                replace HX := Lib.hid (okept HX.out hbn)
                clear hbn cz c0 c1 c2 c3 c4 c5 c6 c7 c8 c9 c10 c11
                obtain ⟨c0, c1, c2, c3, c4, c5, c6, c7, c8, c9, c10, c11, cz⟩ := HX.out
                go_wp2_with fail
                go_ret
                exact ⟨rfl, cz⟩
          · subst ho
            rw [show (-(1 : Int)) = -1 from by decide] at O21 L21
            rw [show decide ((1 : Int) = -1) = false from by decide] at L12
            rw [show decide ((-1 : Int) = -1) = true from by decide] at L21
            rw [show decide ((1 : Int) = 0) = false from by decide] at QE SM
            have hwn : IntKind.i64.wrap (-1) = -1 := by decide
            rw [Bool.false_and] at SM
            obtain ⟨c0, c1, c2, c3, c4, c5, c6, c7, c8, c9, c10, c11, cz⟩ := HX.out
            go_wp2_with fail
            refine (O12.out _).mono ?_
            rintro e wn ⟨rfl, hbn⟩
            replace HX := Lib.hid (okept HX.out hbn)
            clear hbn cz c0 c1 c2 c3 c4 c5 c6 c7 c8 c9 c10 c11
            obtain ⟨c0, c1, c2, c3, c4, c5, c6, c7, c8, c9, c10, c11, cz⟩ := HX.out
            go_wp2_with fail
            refine (L12.out _).mono ?_
            rintro e wn ⟨rfl, hbn⟩
            replace HX := Lib.hid (okept HX.out hbn)
            clear hbn cz c0 c1 c2 c3 c4 c5 c6 c7 c8 c9 c10 c11
            obtain ⟨c0, c1, c2, c3, c4, c5, c6, c7, c8, c9, c10, c11, cz⟩ := HX.out
            go_wp2_with fail
            refine (L21.out _).mono ?_
            rintro e wn ⟨rfl, hbn⟩
            replace HX := Lib.hid (okept HX.out hbn)
            clear hbn cz c0 c1 c2 c3 c4 c5 c6 c7 c8 c9 c10 c11
            obtain ⟨c0, c1, c2, c3, c4, c5, c6, c7, c8, c9, c10, c11, cz⟩ := HX.out
            go_wp2_with fail
            refine wp_region_held_drew (S := fun w' => w'.cell? ⟨g7, 0, none⟩ = some (.int .i64 K1) ∧ w'.cell? ⟨g7, 1, none⟩ = some (.string A1) ∧ w'.cell? ⟨g7, 2, none⟩ = some (.string B1) ∧ w'.cell? ⟨g7, 3, none⟩ = some (.string C1) ∧ w'.cell? ⟨g8, 0, none⟩ = some (.int .i64 K2) ∧ w'.cell? ⟨g8, 1, none⟩ = some (.string A2) ∧ w'.cell? ⟨g8, 2, none⟩ = some (.string B2) ∧ w'.cell? ⟨g8, 3, none⟩ = some (.string C2) ∧ w'.cell? ⟨g9, 0, none⟩ = some (.int .i64 K3) ∧ w'.cell? ⟨g9, 1, none⟩ = some (.string A3) ∧ w'.cell? ⟨g9, 2, none⟩ = some (.string B3) ∧ w'.cell? ⟨g9, 3, none⟩ = some (.string C3) ∧ Below w.heap.size w w') (by kernel_rfl) ?hSor90 (fun hHeld => ?_)
            case hSor90 => exact ⟨c0, c1, c2, c3, c4, c5, c6, c7, c8, c9, c10, c11, cz.drew⟩
            refine wpAnyH_take (i := 0) (oi := ⟨some 56, _, _, _, _, _⟩) (v := ?vor90) rfl (by kernel_rfl) (by kernel_rfl) (by kernel_rfl) (fun _ _ _ h => h) (Or.inl ⟨by kernel_rfl, ?yor90⟩) (by assumption) ?ror90
            case yor90 =>
              intro w hSw
              try dsimp only at hSw
              first | (go_simp; done) | (go_simp; with_reducible rfl)
            try simp only [Act.put, List.setIfInBounds_toArray, List.set_cons_zero, List.set_cons_succ]
            refine wpAnyH_take (i := 1) (oi := ⟨some 57, _, _, _, _, _⟩) (v := ?vor91) rfl (by kernel_rfl) (by kernel_rfl) (by kernel_rfl) (fun _ _ _ h => h) (Or.inl ⟨by kernel_rfl, ?yor91⟩) (by assumption) ?ror91
            case yor91 =>
              intro w hSw
              try dsimp only at hSw
              first | (go_simp; done) | (go_simp; with_reducible rfl)
            try simp only [Act.put, List.setIfInBounds_toArray, List.set_cons_zero, List.set_cons_succ]
            refine wpAnyH_take (i := 2) (oi := ⟨some 58, _, _, _, _, _⟩) (v := ?vor92) rfl (by kernel_rfl) (by kernel_rfl) (by kernel_rfl) (fun _ _ _ h => h) (Or.inl ⟨by kernel_rfl, ?yor92⟩) (by assumption) ?ror92
            case yor92 =>
              intro w hSw
              try dsimp only at hSw
              first | (go_simp; done) | (go_simp; with_reducible rfl)
            try simp only [Act.put, List.setIfInBounds_toArray, List.set_cons_zero, List.set_cons_succ]
            refine wpAnyH_take (i := 3) (oi := ⟨some 59, _, _, _, _, _⟩) (v := ?vor93) rfl (by kernel_rfl) (by kernel_rfl) (by kernel_rfl) (fun _ _ _ h => h) (Or.inl ⟨by kernel_rfl, ?yor93⟩) (by assumption) ?ror93
            case yor93 =>
              intro w hSw
              try dsimp only at hSw
              first | (go_simp; done) | (go_simp; with_reducible rfl)
            try simp only [Act.put, List.setIfInBounds_toArray, List.set_cons_zero, List.set_cons_succ]
            refine wpAnyH_take (i := 4) (oi := ⟨some 60, _, _, _, _, _⟩) (v := ?vor94) rfl (by kernel_rfl) (by kernel_rfl) (by kernel_rfl) (fun _ _ _ h => h) (Or.inl ⟨by kernel_rfl, ?yor94⟩) (by assumption) ?ror94
            case yor94 =>
              intro w hSw
              try dsimp only at hSw
              first | (go_simp; done) | (go_simp; with_reducible rfl)
            try simp only [Act.put, List.setIfInBounds_toArray, List.set_cons_zero, List.set_cons_succ]
            refine wpAnyH_take (i := 5) (oi := ⟨some 61, _, _, _, _, _⟩) (v := ?vor95) rfl (by kernel_rfl) (by kernel_rfl) (by kernel_rfl) (fun _ _ _ h => h) (Or.inl ⟨by kernel_rfl, ?yor95⟩) (by assumption) ?ror95
            case yor95 =>
              intro w hSw
              try dsimp only at hSw
              first | (go_simp; done) | (go_simp; with_reducible rfl)
            try simp only [Act.put, List.setIfInBounds_toArray, List.set_cons_zero, List.set_cons_succ]
            refine wpAnyH_take (i := 7) (oi := ⟨some 63, _, _, _, _, _⟩) (v := ?vor97) rfl (by kernel_rfl) (by kernel_rfl) (by kernel_rfl) (fun _ _ _ h => h) (Or.inl ⟨by kernel_rfl, ?yor97⟩) (by assumption) ?ror97
            case yor97 =>
              intro w hSw
              try dsimp only at hSw
              first | (go_simp; done) | (go_simp; with_reducible rfl)
            try simp only [Act.put, List.setIfInBounds_toArray, List.set_cons_zero, List.set_cons_succ]
            refine wpAnyH_take (i := 8) (oi := ⟨some 64, _, _, _, _, _⟩) (v := ?vor98) rfl (by kernel_rfl) (by kernel_rfl) (by kernel_rfl) (fun _ _ _ h => h) (Or.inl ⟨by kernel_rfl, ?yor98⟩) (by assumption) ?ror98
            case yor98 =>
              intro w hSw
              try dsimp only at hSw
              first | (go_simp; done) | (go_simp; with_reducible rfl)
            try simp only [Act.put, List.setIfInBounds_toArray, List.set_cons_zero, List.set_cons_succ]
            refine wpAnyH_ready (rs := [6]) (by kernel_rfl) (by simp) ?_
            refine AllReadyH.cons (i := 6) (o := ⟨some 62, _, _, _, _, _⟩) rfl (fun K hK => ?_) AllReadyH.nil
            go_simp
            go_at_call 29
            refine (O21.out _).mono ?_
            rintro e wp ⟨rfl, hb⟩
            go_wp2_with fail
            refine hK.out _ _ ?_ (fun hHeld => ?_)
            · exact okept (by assumption) hb
            clear hK K
            try simp only [Act.put, List.setIfInBounds_toArray, List.set_cons_zero, List.set_cons_succ]
            refine wpAnyH_take (i := 9) (oi := ⟨some 65, _, _, _, _, _⟩) (v := ?vor99) rfl (by kernel_rfl) (by kernel_rfl) (by kernel_rfl) (fun _ _ _ h => h) (Or.inl ⟨by kernel_rfl, ?yor99⟩) (by assumption) ?ror99
            case yor99 =>
              intro w hSw
              try dsimp only at hSw
              first | (go_simp; done) | (go_simp; with_reducible rfl)
            try simp only [Act.put, List.setIfInBounds_toArray, List.set_cons_zero, List.set_cons_succ]
            refine wpAnyH_take (i := 10) (oi := ⟨some 66, _, _, _, _, _⟩) (v := ?vor910) rfl (by kernel_rfl) (by kernel_rfl) (by kernel_rfl) (fun _ _ _ h => h) (Or.inl ⟨by kernel_rfl, ?yor910⟩) (by assumption) ?ror910
            case yor910 =>
              intro w hSw
              try dsimp only at hSw
              first | (go_simp; done) | (go_simp; with_reducible rfl)
            try simp only [Act.put, List.setIfInBounds_toArray, List.set_cons_zero, List.set_cons_succ]
            refine wpAnyH_take (i := 11) (oi := ⟨some 67, _, _, _, _, _⟩) (v := ?vor911) rfl (by kernel_rfl) (by kernel_rfl) (by kernel_rfl) (fun _ _ _ h => h) (Or.inl ⟨by kernel_rfl, ?yor911⟩) (by assumption) ?ror911
            case yor911 =>
              intro w hSw
              try dsimp only at hSw
              first | (go_simp; done) | (go_simp; with_reducible rfl)
            try simp only [Act.put, List.setIfInBounds_toArray, List.set_cons_zero, List.set_cons_succ]
            refine wpAnyH_take (i := 12) (oi := ⟨some 68, _, _, _, _, _⟩) (v := ?vor912) rfl (by kernel_rfl) (by kernel_rfl) (by kernel_rfl) (fun _ _ _ h => h) (Or.inl ⟨by kernel_rfl, ?yor912⟩) (by assumption) ?ror912
            case yor912 =>
              intro w hSw
              try dsimp only at hSw
              first | (go_simp; done) | (go_simp; with_reducible rfl)
            try simp only [Act.put, List.setIfInBounds_toArray, List.set_cons_zero, List.set_cons_succ]
            refine wpAnyH_take (i := 13) (oi := ⟨some 69, _, _, _, _, _⟩) (v := ?vor913) rfl (by kernel_rfl) (by kernel_rfl) (by kernel_rfl) (fun _ _ _ h => h) (Or.inl ⟨by kernel_rfl, ?yor913⟩) (by assumption) ?ror913
            case yor913 =>
              intro w hSw
              try dsimp only at hSw
              first | (go_simp; done) | (go_simp; with_reducible rfl)
            try simp only [Act.put, List.setIfInBounds_toArray, List.set_cons_zero, List.set_cons_succ]
            refine wpAnyH_take (i := 15) (oi := ⟨some 71, _, _, _, _, _⟩) (v := ?vor915) rfl (by kernel_rfl) (by kernel_rfl) (by kernel_rfl) (fun _ _ _ h => h) (Or.inl ⟨by kernel_rfl, ?yor915⟩) (by assumption) ?ror915
            case yor915 =>
              intro w hSw
              try dsimp only at hSw
              first | (go_simp; done) | (go_simp; with_reducible rfl)
            try simp only [Act.put, List.setIfInBounds_toArray, List.set_cons_zero, List.set_cons_succ]
            refine wpAnyH_take (i := 16) (oi := ⟨some 72, _, _, _, _, _⟩) (v := ?vor916) rfl (by kernel_rfl) (by kernel_rfl) (by kernel_rfl) (fun _ _ _ h => h) (Or.inl ⟨by kernel_rfl, ?yor916⟩) (by assumption) ?ror916
            case yor916 =>
              intro w hSw
              try dsimp only at hSw
              first | (go_simp; done) | (go_simp; with_reducible rfl)
            try simp only [Act.put, List.setIfInBounds_toArray, List.set_cons_zero, List.set_cons_succ]
            refine wpAnyH_take (i := 17) (oi := ⟨some 73, _, _, _, _, _⟩) (v := ?vor917) rfl (by kernel_rfl) (by kernel_rfl) (by kernel_rfl) (fun _ _ _ h => h) (Or.inl ⟨by kernel_rfl, ?yor917⟩) (by assumption) ?ror917
            case yor917 =>
              intro w hSw
              try dsimp only at hSw
              first | (go_simp; done) | (go_simp; with_reducible rfl)
            try simp only [Act.put, List.setIfInBounds_toArray, List.set_cons_zero, List.set_cons_succ]
            refine wpAnyH_ready (rs := [14]) (by kernel_rfl) (by simp) ?_
            refine AllReadyH.cons (i := 14) (o := ⟨some 70, _, _, _, _, _⟩) rfl (fun K hK => ?_) AllReadyH.nil
            go_simp
            go_at_call 27
            refine (SM.out _).mono ?_
            rintro e wp ⟨rfl, hb⟩
            go_wp2_with fail
            refine hK.out _ _ ?_ (fun hHeld => ?_)
            · exact okept (by assumption) hb
            clear hK K
            try simp only [Act.put, List.setIfInBounds_toArray, List.set_cons_zero, List.set_cons_succ]
            refine wpAnyH_take (i := 18) (oi := ⟨some 74, _, _, _, _, _⟩) (v := ?vor918) rfl (by kernel_rfl) (by kernel_rfl) (by kernel_rfl) (fun _ _ _ h => h) (Or.inl ⟨by kernel_rfl, ?yor918⟩) (by assumption) ?ror918
            case yor918 =>
              intro w hSw
              try dsimp only at hSw
              first | (go_simp; done) | (go_simp; with_reducible rfl)
            try simp only [Act.put, List.setIfInBounds_toArray, List.set_cons_zero, List.set_cons_succ]
            refine wpAnyH_take (i := 19) (oi := ⟨some 75, _, _, _, _, _⟩) (v := undef) rfl (by kernel_rfl) (by kernel_rfl) (by kernel_rfl) (fun _ _ _ h => h) (Or.inr ⟨by kernel_rfl, rfl⟩) (by assumption) ?ror919
            try simp only [Act.put, List.setIfInBounds_toArray, List.set_cons_zero, List.set_cons_succ]
            refine wpAnyH_take (i := 20) (oi := ⟨some 76, _, _, _, _, _⟩) (v := undef) rfl (by kernel_rfl) (by kernel_rfl) (by kernel_rfl) (fun _ _ _ h => h) (Or.inr ⟨by kernel_rfl, rfl⟩) (by assumption) ?ror920
            try simp only [Act.put, List.setIfInBounds_toArray, List.set_cons_zero, List.set_cons_succ]
            refine wpAnyH_take (i := 21) (oi := ⟨some 77, _, _, _, _, _⟩) (v := undef) rfl (by kernel_rfl) (by kernel_rfl) (by kernel_rfl) (fun _ _ _ h => h) (Or.inr ⟨by kernel_rfl, rfl⟩) (by assumption) ?ror921
            try simp only [Act.put, List.setIfInBounds_toArray, List.set_cons_zero, List.set_cons_succ]
            refine wpAnyH_take (i := 22) (oi := ⟨some 78, _, _, _, _, _⟩) (v := ?vor922) rfl (by kernel_rfl) (by kernel_rfl) (by kernel_rfl) (fun _ _ _ h => h) (Or.inl ⟨by kernel_rfl, ?yor922⟩) (by assumption) ?ror922
            case yor922 =>
              intro w hSw
              try dsimp only at hSw
              first | (go_simp; done) | (go_simp; with_reducible rfl)
            try simp only [Act.put, List.setIfInBounds_toArray, List.set_cons_zero, List.set_cons_succ]
            refine wpAnyH_take (i := 23) (oi := ⟨some 79, _, _, _, _, _⟩) (v := ?vor923) rfl (by kernel_rfl) (by kernel_rfl) (by kernel_rfl) (fun _ _ _ h => h) (Or.inl ⟨by kernel_rfl, ?yor923⟩) (by assumption) ?ror923
            case yor923 =>
              intro w hSw
              try dsimp only at hSw
              first | (go_simp; done) | (go_simp; with_reducible rfl)
            try simp only [Act.put, List.setIfInBounds_toArray, List.set_cons_zero, List.set_cons_succ]
            refine wpAnyH_take (i := 24) (oi := ⟨some 80, _, _, _, _, _⟩) (v := ?vor924) rfl (by kernel_rfl) (by kernel_rfl) (by kernel_rfl) (fun _ _ _ h => h) (Or.inl ⟨by kernel_rfl, ?yor924⟩) (by assumption) ?ror924
            case yor924 =>
              intro w hSw
              try dsimp only at hSw
              first | (go_simp; done) | (go_simp; with_reducible rfl)
            try simp only [Act.put, List.setIfInBounds_toArray, List.set_cons_zero, List.set_cons_succ]
            refine wpAnyH_take (i := 25) (oi := ⟨some 81, _, _, _, _, _⟩) (v := ?vor925) rfl (by kernel_rfl) (by kernel_rfl) (by kernel_rfl) (fun _ _ _ h => h) (Or.inl ⟨by kernel_rfl, ?yor925⟩) (by assumption) ?ror925
            case yor925 =>
              intro w hSw
              try dsimp only at hSw
              first | (go_simp; done) | (go_simp; with_reducible rfl)
            try simp only [Act.put, List.setIfInBounds_toArray, List.set_cons_zero, List.set_cons_succ]
            refine wpAnyH_take (i := 26) (oi := ⟨some 82, _, _, _, _, _⟩) (v := ?vor926) rfl (by kernel_rfl) (by kernel_rfl) (by kernel_rfl) (fun _ _ _ h => h) (Or.inl ⟨by kernel_rfl, ?yor926⟩) (by assumption) ?ror926
            case yor926 =>
              intro w hSw
              try dsimp only at hSw
              first | (go_simp; done) | (go_simp; with_reducible rfl)
            try simp only [Act.put, List.setIfInBounds_toArray, List.set_cons_zero, List.set_cons_succ]
            refine wpAnyH_take (i := 27) (oi := ⟨some 83, _, _, _, _, _⟩) (v := ?vor927) rfl (by kernel_rfl) (by kernel_rfl) (by kernel_rfl) (fun _ _ _ h => h) (Or.inl ⟨by kernel_rfl, ?yor927⟩) (by assumption) ?ror927
            case yor927 =>
              intro w hSw
              try dsimp only at hSw
              first | (go_simp; done) | (go_simp; with_reducible rfl)
            try simp only [Act.put, List.setIfInBounds_toArray, List.set_cons_zero, List.set_cons_succ]
            refine wpAnyH_take (i := 28) (oi := ⟨some 84, _, _, _, _, _⟩) (v := ?vor928) rfl (by kernel_rfl) (by kernel_rfl) (by kernel_rfl) (fun _ _ _ h => h) (Or.inl ⟨by kernel_rfl, ?yor928⟩) (by assumption) ?ror928
            case yor928 =>
              intro w hSw
              try dsimp only at hSw
              first | (go_simp; done) | (go_simp; with_reducible rfl)
            try simp only [Act.put, List.setIfInBounds_toArray, List.set_cons_zero, List.set_cons_succ]
            refine wpAnyH_take (i := 29) (oi := ⟨some 85, _, _, _, _, _⟩) (v := ?vor929) rfl (by kernel_rfl) (by kernel_rfl) (by kernel_rfl) (fun _ _ _ h => h) (Or.inl ⟨by kernel_rfl, ?yor929⟩) (by assumption) ?ror929
            case yor929 =>
              intro w hSw
              try dsimp only at hSw
              first | (go_simp; done) | (go_simp; with_reducible rfl)
            try simp only [Act.put, List.setIfInBounds_toArray, List.set_cons_zero, List.set_cons_succ]
            refine wpAnyH_take (i := 30) (oi := ⟨some 86, _, _, _, _, _⟩) (v := ?vor930) rfl (by kernel_rfl) (by kernel_rfl) (by kernel_rfl) (fun _ _ _ h => h) (Or.inl ⟨by kernel_rfl, ?yor930⟩) (by assumption) ?ror930
            case yor930 =>
              intro w hSw
              try dsimp only at hSw
              first | (go_simp; done) | (go_simp; with_reducible rfl)
            try simp only [Act.put, List.setIfInBounds_toArray, List.set_cons_zero, List.set_cons_succ]
            refine wpAnyH_take (i := 31) (oi := ⟨some 87, _, _, _, _, _⟩) (v := ?vor931) rfl (by kernel_rfl) (by kernel_rfl) (by kernel_rfl) (fun _ _ _ h => h) (Or.inl ⟨by kernel_rfl, ?yor931⟩) (by assumption) ?ror931
            case yor931 =>
              intro w hSw
              try dsimp only at hSw
              first | (go_simp; done) | (go_simp; with_reducible rfl)
            try simp only [Act.put, List.setIfInBounds_toArray, List.set_cons_zero, List.set_cons_succ]
            refine wpAnyH_take (i := 32) (oi := ⟨some 88, _, _, _, _, _⟩) (v := ?vor932) rfl (by kernel_rfl) (by kernel_rfl) (by kernel_rfl) (fun _ _ _ h => h) (Or.inl ⟨by kernel_rfl, ?yor932⟩) (by assumption) ?ror932
            case yor932 =>
              intro w hSw
              try dsimp only at hSw
              first | (go_simp; done) | (go_simp; with_reducible rfl)
            try simp only [Act.put, List.setIfInBounds_toArray, List.set_cons_zero, List.set_cons_succ]
            refine wpAnyH_done (by kernel_rfl) ?_ _
            replace HX := Lib.hid hHeld
            clear hHeld cz c0 c1 c2 c3 c4 c5 c6 c7 c8 c9 c10 c11
            by_cases k13 : K1 = 3
            · have q1 : (K1 == 3) = true := by rw [k13]; rfl
              clear k13
              obtain ⟨c0, c1, c2, c3, c4, c5, c6, c7, c8, c9, c10, c11, cz⟩ := HX.out
              go_wp2_with fail
              go_ret
              exact ⟨rfl, cz⟩
            · have q1 : (K1 == 3) = false := beq_eq_false_iff_ne.mpr k13
              by_cases k23 : K2 = 3
              · have q2 : (K2 == 3) = true := by rw [k23]; rfl
                clear k13 k23
                obtain ⟨c0, c1, c2, c3, c4, c5, c6, c7, c8, c9, c10, c11, cz⟩ := HX.out
                go_wp2_with fail
                go_ret
                exact ⟨rfl, cz⟩
              · have q2 : (K2 == 3) = false := beq_eq_false_iff_ne.mpr k23
                have kk1 := HK.out
                have kk2 := HK2.out
                rw [HQ.out (by omega) (by omega)] at RQ
                rw [HE1.out (by omega)] at EQ11
                obtain ⟨ev0, ev1⟩ := HQV.out
                have hwr : IntKind.i64.wrap eV = eV := IntWalk.i64_in _ (by omega)
                obtain ⟨c0, c1, c2, c3, c4, c5, c6, c7, c8, c9, c10, c11, cz⟩ := HX.out
                go_wp2_with fail
                refine wp_region_held_drew (S := fun w' => w'.cell? ⟨g7, 0, none⟩ = some (.int .i64 K1) ∧ w'.cell? ⟨g7, 1, none⟩ = some (.string A1) ∧ w'.cell? ⟨g7, 2, none⟩ = some (.string B1) ∧ w'.cell? ⟨g7, 3, none⟩ = some (.string C1) ∧ w'.cell? ⟨g8, 0, none⟩ = some (.int .i64 K2) ∧ w'.cell? ⟨g8, 1, none⟩ = some (.string A2) ∧ w'.cell? ⟨g8, 2, none⟩ = some (.string B2) ∧ w'.cell? ⟨g8, 3, none⟩ = some (.string C2) ∧ w'.cell? ⟨g9, 0, none⟩ = some (.int .i64 K3) ∧ w'.cell? ⟨g9, 1, none⟩ = some (.string A3) ∧ w'.cell? ⟨g9, 2, none⟩ = some (.string B3) ∧ w'.cell? ⟨g9, 3, none⟩ = some (.string C3) ∧ Below w.heap.size w w') (by kernel_rfl) ?hSor100 (fun hHeld => ?_)
                case hSor100 => exact ⟨c0, c1, c2, c3, c4, c5, c6, c7, c8, c9, c10, c11, cz.drew⟩
                refine wpAnyH_take (i := 0) (oi := ⟨some 111, _, _, _, _, _⟩) (v := ?vor100) rfl (by kernel_rfl) (by kernel_rfl) (by kernel_rfl) (fun _ _ _ h => h) (Or.inl ⟨by kernel_rfl, ?yor100⟩) (by assumption) ?ror100
                case yor100 =>
                  intro w hSw
                  try dsimp only at hSw
                  first | (go_simp; done) | (go_simp; with_reducible rfl)
                try simp only [Act.put, List.setIfInBounds_toArray, List.set_cons_zero, List.set_cons_succ]
                refine wpAnyH_take (i := 1) (oi := ⟨some 112, _, _, _, _, _⟩) (v := ?vor101) rfl (by kernel_rfl) (by kernel_rfl) (by kernel_rfl) (fun _ _ _ h => h) (Or.inl ⟨by kernel_rfl, ?yor101⟩) (by assumption) ?ror101
                case yor101 =>
                  intro w hSw
                  try dsimp only at hSw
                  first | (go_simp; done) | (go_simp; with_reducible rfl)
                try simp only [Act.put, List.setIfInBounds_toArray, List.set_cons_zero, List.set_cons_succ]
                refine wpAnyH_take (i := 4) (oi := ⟨some 115, _, _, _, _, _⟩) (v := ?vor104) rfl (by kernel_rfl) (by kernel_rfl) (by kernel_rfl) (fun _ _ _ h => h) (Or.inl ⟨by kernel_rfl, ?yor104⟩) (by assumption) ?ror104
                case yor104 =>
                  intro w hSw
                  try dsimp only at hSw
                  first | (go_simp; done) | (go_simp; with_reducible rfl)
                try simp only [Act.put, List.setIfInBounds_toArray, List.set_cons_zero, List.set_cons_succ]
                refine wpAnyH_take (i := 5) (oi := ⟨some 116, _, _, _, _, _⟩) (v := ?vor105) rfl (by kernel_rfl) (by kernel_rfl) (by kernel_rfl) (fun _ _ _ h => h) (Or.inl ⟨by kernel_rfl, ?yor105⟩) (by assumption) ?ror105
                case yor105 =>
                  intro w hSw
                  try dsimp only at hSw
                  first | (go_simp; done) | (go_simp; with_reducible rfl)
                try simp only [Act.put, List.setIfInBounds_toArray, List.set_cons_zero, List.set_cons_succ]
                refine wpAnyH_ready (rs := [2]) (by kernel_rfl) (by simp) ?_
                refine AllReadyH.cons (i := 2) (o := ⟨some 113, _, _, _, _, _⟩) rfl (fun K hK => ?_) AllReadyH.nil
                go_simp
                go_at_call 14
                refine (EQ12.out _ (HEV.out _ hHeld.2.2.2.2.2.2.2.2.2.2.2.2)).mono ?_
                rintro e wp ⟨rfl, hb⟩
                go_wp2_with fail
                refine hK.out _ _ ?_ (fun hHeld => ?_)
                · exact okept (by assumption) hb
                clear hK K
                try simp only [Act.put, List.setIfInBounds_toArray, List.set_cons_zero, List.set_cons_succ]
                refine wpAnyH_take (i := 3) (oi := ⟨some 114, _, _, _, _, _⟩) (v := ?vor103) rfl (by kernel_rfl) (by kernel_rfl) (by kernel_rfl) (fun _ _ _ h => h) (Or.inl ⟨by kernel_rfl, ?yor103⟩) (by assumption) ?ror103
                case yor103 =>
                  intro w hSw
                  try dsimp only at hSw
                  first | (go_simp; done) | (go_simp; with_reducible rfl)
                try simp only [Act.put, List.setIfInBounds_toArray, List.set_cons_zero, List.set_cons_succ]
                refine wpAnyH_ready (rs := [6]) (by kernel_rfl) (by simp) ?_
                refine AllReadyH.cons (i := 6) (o := ⟨some 117, _, _, _, _, _⟩) rfl (fun K hK => ?_) AllReadyH.nil
                go_simp
                go_at_call 31
                refine (RQ.out _).mono ?_
                rintro e wp ⟨rfl, hb⟩
                go_wp2_with fail
                refine hK.out _ _ ?_ (fun hHeld => ?_)
                · exact okept (by assumption) hb
                clear hK K
                try simp only [Act.put, List.setIfInBounds_toArray, List.set_cons_zero, List.set_cons_succ]
                refine wpAnyH_take (i := 7) (oi := ⟨some 118, _, _, _, _, _⟩) (v := ?vor107) rfl (by kernel_rfl) (by kernel_rfl) (by kernel_rfl) (fun _ _ _ h => h) (Or.inl ⟨by kernel_rfl, ?yor107⟩) (by assumption) ?ror107
                case yor107 =>
                  intro w hSw
                  try dsimp only at hSw
                  first | (go_simp; done) | (go_simp; with_reducible rfl)
                try simp only [Act.put, List.setIfInBounds_toArray, List.set_cons_zero, List.set_cons_succ]
                refine wpAnyH_take (i := 8) (oi := ⟨some 119, _, _, _, _, _⟩) (v := ?vor108) rfl (by kernel_rfl) (by kernel_rfl) (by kernel_rfl) (fun _ _ _ h => h) (Or.inl ⟨by kernel_rfl, ?yor108⟩) (by assumption) ?ror108
                case yor108 =>
                  intro w hSw
                  try dsimp only at hSw
                  first | (go_simp; done) | (go_simp; with_reducible rfl)
                try simp only [Act.put, List.setIfInBounds_toArray, List.set_cons_zero, List.set_cons_succ]
                refine wpAnyH_take (i := 9) (oi := ⟨some 120, _, _, _, _, _⟩) (v := ?vor109) rfl (by kernel_rfl) (by kernel_rfl) (by kernel_rfl) (fun _ _ _ h => h) (Or.inl ⟨by kernel_rfl, ?yor109⟩) (by assumption) ?ror109
                case yor109 =>
                  intro w hSw
                  try dsimp only at hSw
                  first | (go_simp; done) | (go_simp; with_reducible rfl)
                try simp only [Act.put, List.setIfInBounds_toArray, List.set_cons_zero, List.set_cons_succ]
                refine wpAnyH_take (i := 10) (oi := ⟨some 121, _, _, _, _, _⟩) (v := ?vor1010) rfl (by kernel_rfl) (by kernel_rfl) (by kernel_rfl) (fun _ _ _ h => h) (Or.inl ⟨by kernel_rfl, ?yor1010⟩) (by assumption) ?ror1010
                case yor1010 =>
                  intro w hSw
                  try dsimp only at hSw
                  first | (go_simp; done) | (go_simp; with_reducible rfl)
                try simp only [Act.put, List.setIfInBounds_toArray, List.set_cons_zero, List.set_cons_succ]
                refine wpAnyH_take (i := 12) (oi := ⟨some 123, _, _, _, _, _⟩) (v := ?vor1012) rfl (by kernel_rfl) (by kernel_rfl) (by kernel_rfl) (fun _ _ _ h => h) (Or.inl ⟨by kernel_rfl, ?yor1012⟩) (by assumption) ?ror1012
                case yor1012 =>
                  intro w hSw
                  try dsimp only at hSw
                  first | (go_simp; done) | (go_simp; with_reducible rfl)
                try simp only [Act.put, List.setIfInBounds_toArray, List.set_cons_zero, List.set_cons_succ]
                refine wpAnyH_take (i := 13) (oi := ⟨some 124, _, _, _, _, _⟩) (v := ?vor1013) rfl (by kernel_rfl) (by kernel_rfl) (by kernel_rfl) (fun _ _ _ h => h) (Or.inl ⟨by kernel_rfl, ?yor1013⟩) (by assumption) ?ror1013
                case yor1013 =>
                  intro w hSw
                  try dsimp only at hSw
                  first | (go_simp; done) | (go_simp; with_reducible rfl)
                try simp only [Act.put, List.setIfInBounds_toArray, List.set_cons_zero, List.set_cons_succ]
                refine wpAnyH_ready (rs := [11]) (by kernel_rfl) (by simp) ?_
                refine AllReadyH.cons (i := 11) (o := ⟨some 122, _, _, _, _, _⟩) rfl (fun K hK => ?_) AllReadyH.nil
                go_simp
                go_at_call 14
                refine (EQ12.out _ (HEV.out _ hHeld.2.2.2.2.2.2.2.2.2.2.2.2)).mono ?_
                rintro e wp ⟨rfl, hb⟩
                go_wp2_with fail
                refine hK.out _ _ ?_ (fun hHeld => ?_)
                · exact okept (by assumption) hb
                clear hK K
                try simp only [Act.put, List.setIfInBounds_toArray, List.set_cons_zero, List.set_cons_succ]
                refine wpAnyH_ready (rs := [14]) (by kernel_rfl) (by simp) ?_
                refine AllReadyH.cons (i := 14) (o := ⟨some 125, _, _, _, _, _⟩) rfl (fun K hK => ?_) AllReadyH.nil
                go_simp
                go_at_call 14
                refine (EQ21.out _ (HEV.out _ hHeld.2.2.2.2.2.2.2.2.2.2.2.2)).mono ?_
                rintro e wp ⟨rfl, hb⟩
                go_wp2_with fail
                refine hK.out _ _ ?_ (fun hHeld => ?_)
                · exact okept (by assumption) hb
                clear hK K
                try simp only [Act.put, List.setIfInBounds_toArray, List.set_cons_zero, List.set_cons_succ]
                refine wpAnyH_take (i := 15) (oi := ⟨some 126, _, _, _, _, _⟩) (v := ?vor1015) rfl (by kernel_rfl) (by kernel_rfl) (by kernel_rfl) (fun _ _ _ h => h) (Or.inl ⟨by kernel_rfl, ?yor1015⟩) (by assumption) ?ror1015
                case yor1015 =>
                  intro w hSw
                  try dsimp only at hSw
                  first | (go_simp; done) | (go_simp; with_reducible rfl)
                try simp only [Act.put, List.setIfInBounds_toArray, List.set_cons_zero, List.set_cons_succ]
                refine wpAnyH_take (i := 16) (oi := ⟨some 127, _, _, _, _, _⟩) (v := ?vor1016) rfl (by kernel_rfl) (by kernel_rfl) (by kernel_rfl) (fun _ _ _ h => h) (Or.inl ⟨by kernel_rfl, ?yor1016⟩) (by assumption) ?ror1016
                case yor1016 =>
                  intro w hSw
                  try dsimp only at hSw
                  first | (go_simp; done) | (go_simp; with_reducible rfl)
                try simp only [Act.put, List.setIfInBounds_toArray, List.set_cons_zero, List.set_cons_succ]
                refine wpAnyH_take (i := 17) (oi := ⟨some 128, _, _, _, _, _⟩) (v := ?vor1017) rfl (by kernel_rfl) (by kernel_rfl) (by kernel_rfl) (fun _ _ _ h => h) (Or.inl ⟨by kernel_rfl, ?yor1017⟩) (by assumption) ?ror1017
                case yor1017 =>
                  intro w hSw
                  try dsimp only at hSw
                  first | (go_simp; done) | (go_simp; with_reducible rfl)
                try simp only [Act.put, List.setIfInBounds_toArray, List.set_cons_zero, List.set_cons_succ]
                refine wpAnyH_take (i := 18) (oi := ⟨some 129, _, _, _, _, _⟩) (v := ?vor1018) rfl (by kernel_rfl) (by kernel_rfl) (by kernel_rfl) (fun _ _ _ h => h) (Or.inl ⟨by kernel_rfl, ?yor1018⟩) (by assumption) ?ror1018
                case yor1018 =>
                  intro w hSw
                  try dsimp only at hSw
                  first | (go_simp; done) | (go_simp; with_reducible rfl)
                try simp only [Act.put, List.setIfInBounds_toArray, List.set_cons_zero, List.set_cons_succ]
                refine wpAnyH_take (i := 19) (oi := ⟨some 130, _, _, _, _, _⟩) (v := ?vor1019) rfl (by kernel_rfl) (by kernel_rfl) (by kernel_rfl) (fun _ _ _ h => h) (Or.inl ⟨by kernel_rfl, ?yor1019⟩) (by assumption) ?ror1019
                case yor1019 =>
                  intro w hSw
                  try dsimp only at hSw
                  first | (go_simp; done) | (go_simp; with_reducible rfl)
                try simp only [Act.put, List.setIfInBounds_toArray, List.set_cons_zero, List.set_cons_succ]
                refine wpAnyH_ready (rs := [20]) (by kernel_rfl) (by simp) ?_
                refine AllReadyH.cons (i := 20) (o := ⟨some 131, _, _, _, _, _⟩) rfl (fun K hK => ?_) AllReadyH.nil
                go_simp
                go_at_call 14
                refine (EQ11.out _ (HEV.out _ hHeld.2.2.2.2.2.2.2.2.2.2.2.2)).mono ?_
                rintro e wp ⟨rfl, hb⟩
                go_wp2_with fail
                refine hK.out _ _ ?_ (fun hHeld => ?_)
                · exact okept (by assumption) hb
                clear hK K
                try simp only [Act.put, List.setIfInBounds_toArray, List.set_cons_zero, List.set_cons_succ]
                refine wpAnyH_take (i := 21) (oi := ⟨some 132, _, _, _, _, _⟩) (v := ?vor1021) rfl (by kernel_rfl) (by kernel_rfl) (by kernel_rfl) (fun _ _ _ h => h) (Or.inl ⟨by kernel_rfl, ?yor1021⟩) (by assumption) ?ror1021
                case yor1021 =>
                  intro w hSw
                  try dsimp only at hSw
                  first | (go_simp; done) | (go_simp; with_reducible rfl)
                try simp only [Act.put, List.setIfInBounds_toArray, List.set_cons_zero, List.set_cons_succ]
                refine wpAnyH_take (i := 22) (oi := ⟨some 133, _, _, _, _, _⟩) (v := ?vor1022) rfl (by kernel_rfl) (by kernel_rfl) (by kernel_rfl) (fun _ _ _ h => h) (Or.inl ⟨by kernel_rfl, ?yor1022⟩) (by assumption) ?ror1022
                case yor1022 =>
                  intro w hSw
                  try dsimp only at hSw
                  first | (go_simp; done) | (go_simp; with_reducible rfl)
                try simp only [Act.put, List.setIfInBounds_toArray, List.set_cons_zero, List.set_cons_succ]
                refine wpAnyH_take (i := 23) (oi := ⟨some 6, _, _, _, _, _⟩) (v := ?vor1023) rfl (by kernel_rfl) (by kernel_rfl) (by kernel_rfl) (fun _ _ _ h => h) (Or.inl ⟨by kernel_rfl, ?yor1023⟩) (by assumption) ?ror1023
                case yor1023 =>
                  intro w hSw
                  try dsimp only at hSw
                  first | (go_simp; done) | (go_simp; with_reducible rfl)
                try simp only [Act.put, List.setIfInBounds_toArray, List.set_cons_zero, List.set_cons_succ]
                refine wpAnyH_done (by kernel_rfl) ?_ _
                have HZZ := Lib.hid hHeld.2.2.2.2.2.2.2.2.2.2.2.2
                go_wp2_with fail
                go_ret
                exact ⟨rfl, HZZ.out⟩
end Go.Proofs.YteeajhnbifpklaaDoor
