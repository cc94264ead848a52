/- The law ValueQuotients: what is left of a quotient, towards 0 or downwards; the law's own closure. -/
import Derived.Test.YtfpelhacbmggeaaOpen
import Derived.Test.YtfpelhacbmggeaaVal
import Derived.Test.YtfpelhacbmggeaaManyPlain
namespace Go.Proofs.Ytfpelhacbmggeaa
open Go.RowKit
theorem bigRes_parts' {w w' : World} {N : Int} {e : Ending} (h : BigRes w N e w') : ∃ s a l c, e = .returned (.agg #[.bool s, .slice a l c]) ∧ s = decide (N < 0) ∧ BigV w' (.agg #[.bool s, .slice a l c]) N ∧ Below w.heap.size w w' := by
  obtain ⟨r, rfl, hr, hb⟩ := h
  have h0 := hr
  obtain ⟨a, c, ds, rfl, _, _, _, _, _, _⟩ := big_parts h0
  exact ⟨_, a, ds.length, c, rfl, rfl, hr, hb⟩
theorem bigRes_three {w w' : World} {N : Int} {e : Ending} (h : BigRes w N e w') : ∃ s a l c, e = .returned (.agg #[.bool s, .slice a l c]) ∧ BigV w' (.agg #[.bool s, .slice a l c]) N ∧ Below w.heap.size w w' := by
  obtain ⟨s, a, l, c, h1, _, h2⟩ := bigRes_parts' h
  exact ⟨s, a, l, c, h1, h2⟩
theorem bigV_abs {w : World} {s : Bool} {v : Value} {N : Int} (h : BigV w (.agg #[.bool s, v]) N) : BigV w (.agg #[.bool false, v]) (szV N) := by
  obtain ⟨x, ds, h1, h2, h3, h4, h5⟩ := h
  cases h1
  have h0 : 0 ≤ szV N := by unfold szV; split <;> omega
  refine ⟨v, ds, ?_, h2, h3, h4, by rw [h5]; unfold szV; split <;> (try split) <;> omega⟩
  rw [decide_eq_false (by omega : ¬ szV N < 0)]
theorem sz_abs (N : Int) : szV (szV N) = szV N := by unfold szV; split <;> (try split) <;> omega
theorem kept_small {w w1 w2 : World} {a b c d : Addr} {x y z t : Value} (h : w1.cell? a = some x ∧ w1.cell? b = some y ∧ w1.cell? c = some z ∧ w1.cell? d = some t ∧ Below w.heap.size w w1) (hb : Below w1.heap.size w1 w2) :
    w2.cell? a = some x ∧ w2.cell? b = some y ∧ w2.cell? c = some z ∧ w2.cell? d = some t ∧ Below w.heap.size w w2 := kept_add h hb
set_option maxHeartbeats 1600000 in
theorem small_any (X B : Int) (u : Value) (S : Nat) (s3 : Option Addr) (l3 c3 : Nat) (w : World) (hX : szV X < ten 60) (hB : szV B < ten 60) (hlt : szV X < szV B) (hu : BigV w u X)
    (h0 : w.cell? ⟨S, 0, none⟩ = some (.bool false)) (h1 : w.cell? ⟨S, 1, none⟩ = some (.slice s3 l3 c3)) (hs : BigV w (.agg #[.bool false, .slice s3 l3 c3]) (szV B)) :
    Calls Try.prog 22 #[u, .pointer (some ⟨S, 0, none⟩)] w fun e w' => e = .returned (.bool true) ∧ Below w.heap.size w w' := by
  obtain ⟨a, cap, ds, rfl, _, _, _, _, _, _⟩ := big_parts (id hu)
  obtain ⟨sx, hsx⟩ : ∃ sx, sx = decide (X < 0) := ⟨_, rfl⟩
  obtain ⟨l, hl⟩ : ∃ l, l = ds.length := ⟨_, rfl⟩
  rw [← hsx, ← hl] at hu ⊢
  clear hsx hl
  have HU := Lib.hid (bigV_abs hu); have HS := Lib.hid hs
  have hS := block_lt_of_cell h0
  have AN := Lib.hid (fun v w h => (bneg_any (szV B) v w (by rw [sz_abs]; exact hB) h).mono fun _ _ => bigRes_three)
  have AA := Lib.hid (fun u v w h h' => (badd_any (szV X) (-szV B) u v w (by rw [sz_abs]; exact hX) (by unfold szV at hB ⊢; split <;> (try split) <;> omega) h h').mono fun _ _ => bigRes_parts')
  have HD : Hid (decide (szV X + -szV B < 0) = true) := Lib.hid (decide_eq_true (by omega))
  clear hu hs hX hB hlt
  have hfd : ∀ (y : Bool) (a : Option Addr) (l c : Nat) (w : World), (Instr.field 35 (.agg #[.bool y, .slice a l c]) 0).run Try.prog w = .ok (.bool y) w := fun _ _ _ _ _ => by kernel_rfl
  generalize szV X + -szV B = D at AA HD
  generalize -szV B = NB at AN AA
  generalize szV B = SB at AN HS
  generalize szV X = SX at AA HU
  go_enter Try.func22, Try.ntmps22
  go_wp2_with fail
  obtain ⟨w2, h2⟩ : ∃ w2, w2 = w.alloc (.cells #[.bool false, .slice a l cap] 35) := ⟨_, rfl⟩
  have p0 : w2.cell? ⟨w.heap.size, 0, none⟩ = some (.bool false) := by rw [h2]; simp [go_sem]
  have p1 : w2.cell? ⟨w.heap.size, 1, none⟩ = some (.slice a l cap) := by rw [h2]; simp [go_sem]
  have z : Below w.heap.size w w2 := by rw [h2]; go_grown
  rw [← h2]
  clear h2
  have q0 := cell_below h0 z
  have q1 := cell_below h1 z
  clear h0 h1
  go_region_held3 (fun w' => w'.cell? ⟨w.heap.size, 0, none⟩ = some (.bool false) ∧ w'.cell? ⟨w.heap.size, 1, none⟩ = some (.slice a l cap) ∧ w'.cell? ⟨S, 0, none⟩ = some (.bool false) ∧ w'.cell? ⟨S, 1, none⟩ = some (.slice s3 l3 c3) ∧ Below w.heap.size w w')
      (first | assumption | exact kept_add (by assumption) hb | exact ⟨p0, p1, q0, q1, z⟩ | exact ⟨p0, p1, q0, q1, z.drew⟩)
      (first
       | (go_at_call 20; refine (AN.out _ _ (bigV_below HS.out z.drew)).mono ?_; rintro e w' ⟨s4, a4, l4, c4, rfl, hn, hb⟩; have hz2 := z.drew.trans (hb.mono z.drew.size))
       | (go_at_call 18; refine (AA.out _ _ _ (bigV_below HU.out hz2) hn).mono ?_; rintro e w' ⟨s5, a5, l5, c5, rfl, hs5, hr, hb⟩; rw [HD.out] at hs5; subst hs5))
  obtain ⟨_, _, _, _, zz⟩ := ‹_ ∧ _ ∧ _ ∧ _ ∧ Below w.heap.size w _›
  go_wp2_with fail
  go_ret
  exact ⟨rfl, zz⟩
end Go.Proofs.Ytfpelhacbmggeaa
