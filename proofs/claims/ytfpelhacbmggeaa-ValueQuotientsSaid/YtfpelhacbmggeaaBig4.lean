/- Contracts of beckref02's trim, Add and Neg over this seat's program. -/
import Derived.Test.YtfpelhacbmggeaaBig3
namespace Go.Proofs.Ytfpelhacbmggeaa
open Go.RowKit
def numV (s : Bool) (N : Int) : Int := if s then -N else N
theorem sz_numV (s : Bool) (N : Int) (h : 0 ≤ N) : szV (numV s N) = N := by cases s <;> simp [szV, numV] <;> omega
theorem neg_numV (s : Bool) (N : Int) (h : 1 ≤ N) : decide (numV s N < 0) = s := by cases s <;> simp [numV] <;> omega
theorem val_take_snoc (ds : List Int) (m : Nat) (hm : m < ds.length) : ds.take (m + 1) = ds.take m ++ [ds[m]?.getD 0] := by
  rw [List.take_add_one]; simp [hm]
theorem val_take_nought (ds : List Int) (m : Nat) (hm : m < ds.length) (h : ds[m]?.getD 0 = 0) (hv : val (ds.take (m + 1)) = val ds) : val (ds.take m) = val ds := by
  rw [val_take_snoc ds m hm, val_snoc, h] at hv; omega
theorem val_pos {ds : List Int} (hg : Good ds) (hn : Norm ds) (hne : ds ≠ []) : 1 ≤ val ds := by
  have := val_ge hg hn hne
  have := ten_pos (ds.length - 1)
  omega
/-- what trim answers: the same row, shorter -/
def TrimRes (w : World) (a : Option Addr) (cap : Nat) (ds : List Int) (N : Int) (e : Ending) (w' : World) : Prop :=
  ∃ k, k ≤ ds.length ∧ e = .returned (.agg #[.bool (decide (N < 0)), .slice a k cap]) ∧ Good (ds.take k) ∧ Norm (ds.take k) ∧ val (ds.take k) = szV N ∧ Below w.heap.size w w'
theorem bigV_take {w : World} {a : Option Addr} {cap k : Nat} {ds : List Int} {N : Int} (hk : k ≤ ds.length) (h1 : ds.length ≤ cap) (h2 : cap ≤ 9223372036854775807) (hd : DigA w a ds) (hg : Good (ds.take k)) (hn : Norm (ds.take k)) (hv : val (ds.take k) = szV N) :
    BigV w (.agg #[.bool (decide (N < 0)), .slice a k cap]) N := by
  have hle : (ds.take k).length = k := by rw [List.length_take]; omega
  refine ⟨.slice a k cap, ds.take k, rfl, ⟨a, cap, by rw [hle], by omega, h2, fun j hj => ?_⟩, hg, hn, hv⟩
  rw [hle] at hj
  obtain ⟨g', off', h1, h2⟩ := hd j (by omega)
  exact ⟨g', off', h1, by rw [show (List.take k ds)[j]?.getD 0 = ds[j]?.getD 0 by rw [List.getElem?_take_of_lt hj]]; exact h2⟩
set_option maxHeartbeats 3200000 in
theorem trim_any (s : Bool) (a : Option Addr) (cap : Nat) (ds : List Int) (w : World) (hl : ds.length ≤ 300) (hg : Good ds) (hc1 : ds.length ≤ cap) (_hc2 : cap ≤ 9223372036854775807) (ha : DigA w a ds) :
    Calls Try.prog 31 #[.agg #[.bool s, .slice a ds.length cap]] w (TrimRes w a cap ds (numV s (val ds))) := by
  have hA := Lib.hid ha; have gA := Lib.hid hg
  obtain ⟨L, hL⟩ : ∃ L, L = ds.length := ⟨_, rfl⟩
  have HL : Hid (L = ds.length) := Lib.hid hL
  rw [← hL] at hl hc1 ⊢
  clear ha hg hL
  go_enter Try.func31, Try.ntmps31
  go_wp2_with fail
  go_loopw [] (fun wr => ∃ k : Nat, k ≤ L ∧ Hid (val (ds.take k) = val ds) ∧
      wr.cell? ⟨w.heap.size, 0, none⟩ = some (.bool s) ∧ wr.cell? ⟨w.heap.size, 1, none⟩ = some (.slice a k cap) ∧ wr.frozen? ⟨w.heap.size, 0, none⟩ = false ∧ wr.frozen? ⟨w.heap.size, 1, none⟩ = false ∧
      wr.cell? ⟨w.heap.size + 1, 0, none⟩ = some (.bool false) ∧ wr.cell? ⟨w.heap.size + 1, 1, none⟩ = some (.slice none 0 0) ∧ wr.frozen? ⟨w.heap.size + 1, 0, none⟩ = false ∧ wr.frozen? ⟨w.heap.size + 1, 1, none⟩ = false ∧
      Hid (Below w.heap.size w wr)) (fun wr => match wr.cell? ⟨w.heap.size, 1, none⟩ with | some (.slice _ k _) => k | _ => 0)
  case atStart =>
    exact ⟨L, Nat.le_refl _, Lib.hid (by rw [HL.out, List.take_length]), by simp [go_sem], by simp [go_sem], by simp [go_sem], by simp [go_sem], by simp [go_sem], by simp [go_sem], by simp [go_sem], by simp [go_sem], Lib.hid (by go_grown)⟩
  case round =>
    obtain ⟨k, hk, hv, c0, c1, f0, f1, d0, d1, e0, e1, hb⟩ := hrel
    have hsz : w.heap.size + 1 < wr.heap.size := block_lt_of_cell d0
    cases k with
    | zero =>
      have hzero : Hid (val ds = 0) := Lib.hid (by have := hv.out; simp [val] at this; omega)
      have S0 : ((wr.setCell ⟨w.heap.size, 0, none⟩ (.bool false)).cell? ⟨w.heap.size, 0, none⟩) = some (.bool false) := World.cell?_setCell_same _ _ _ c0
      have S1 : ((wr.setCell ⟨w.heap.size, 0, none⟩ (.bool false)).cell? ⟨w.heap.size, 1, none⟩) = some (.slice a 0 cap) := by rw [World.cell?_setCell_other _ _ _ _ (by simp)]; exact c1
      go_wp2_with fail
      have e0' : (((wr.setCell ⟨w.heap.size, 0, none⟩ (.bool false)).setCell ⟨w.heap.size + 1, 0, none⟩ (.bool false)).setCell ⟨w.heap.size + 1, 1, none⟩ (.slice a 0 cap)).cell? ⟨w.heap.size + 1, 0, none⟩ = some (.bool false) := by
        rw [World.cell?_setCell_other _ _ _ _ (by simp)]; exact World.cell?_setCell_same _ _ _ ((World.cell?_setCell_other _ _ _ _ (by simp)).trans d0)
      have e1' : (((wr.setCell ⟨w.heap.size, 0, none⟩ (.bool false)).setCell ⟨w.heap.size + 1, 0, none⟩ (.bool false)).setCell ⟨w.heap.size + 1, 1, none⟩ (.slice a 0 cap)).cell? ⟨w.heap.size + 1, 1, none⟩ = some (.slice a 0 cap) :=
        World.cell?_setCell_same _ _ _ (by rw [World.cell?_setCell_other _ _ _ _ (by simp)]; exact ((World.cell?_setCell_other _ _ _ _ (by simp)).trans d1))
      refine bodyPost_ret (v := .agg #[(.bool false), (.slice a 0 cap)]) (by simp [results, Try.results31, go_sem, e0', e1']) rfl ?_
      refine ⟨0, Nat.zero_le _, ?_, by simpa using good_nil, .inl (by simp), ?_, ?_⟩
      · rw [hzero.out]; cases s <;> rfl
      · rw [hzero.out]; cases s <;> rfl
      · exact ((hb.out.setCell (p := ⟨w.heap.size, 0, none⟩) (by simp) _).setCell (p := ⟨w.heap.size + 1, 0, none⟩) (by simp) _).setCell (p := ⟨w.heap.size + 1, 1, none⟩) (by simp) _
    | succ m =>
      have hm : m < ds.length := by rw [← HL.out]; omega
      obtain ⟨g, off, hea, ca⟩ := hA.out m hm
      subst hea
      have ca' := (hb.out.cell (block_lt_of_cell ca)).trans ca
      have hgw := block_lt_of_cell ca'
      clear ca
      obtain ⟨x, hx⟩ : ∃ x, x = ds[m]?.getD 0 := ⟨_, rfl⟩
      rw [← hx] at ca'
      have HX := Lib.hid hx
      clear hx hm
      by_cases h0 : x = 0
      · subst h0
        go_wp2_with fail
        refine ⟨⟨m, by omega, Lib.hid (val_take_nought ds m (by rw [← HL.out]; omega) HX.out.symm hv.out), (World.cell?_setCell_other _ _ _ _ (by simp)).trans c0, World.cell?_setCell_same _ _ _ c1, (World.frozen?_setCell _ _ _ _).trans f0, (World.frozen?_setCell _ _ _ _).trans f1, (World.cell?_setCell_other _ _ _ _ (by simp)).trans d0, (World.cell?_setCell_other _ _ _ _ (by simp)).trans d1, (World.frozen?_setCell _ _ _ _).trans e0, (World.frozen?_setCell _ _ _ _).trans e1, Lib.hid (hb.out.setCell (p := ⟨w.heap.size, 1, none⟩) (by simp) _)⟩, ?_⟩
        rw [World.cell?_setCell_same _ _ _ c1, c1]; exact Nat.lt_succ_self m
      · go_wp2_with fail
        have hno : Norm (ds.take (m + 1)) := .inr ⟨ds.take m, x, by rw [HX.out]; exact val_take_snoc ds m (by rw [← HL.out]; omega), h0⟩
        have hgo : Good (ds.take (m + 1)) := good_sub gA.out fun _ hx => List.mem_of_mem_take hx
        have hle : (ds.take (m + 1)).length = m + 1 := by rw [List.length_take, ← HL.out]; omega
        have hp := val_pos hgo hno (fun e => by rw [e] at hle; simp at hle)
        rw [hv.out] at hp
        have e0' : ((wr.setCell ⟨w.heap.size + 1, 0, none⟩ (.bool s)).setCell ⟨w.heap.size + 1, 1, none⟩ (.slice (some ⟨g, off, none⟩) (m + 1) cap)).cell? ⟨w.heap.size + 1, 0, none⟩ = some (.bool s) := by
          rw [World.cell?_setCell_other _ _ _ _ (by simp)]; exact World.cell?_setCell_same _ _ _ d0
        have e1' : ((wr.setCell ⟨w.heap.size + 1, 0, none⟩ (.bool s)).setCell ⟨w.heap.size + 1, 1, none⟩ (.slice (some ⟨g, off, none⟩) (m + 1) cap)).cell? ⟨w.heap.size + 1, 1, none⟩ = some (.slice (some ⟨g, off, none⟩) (m + 1) cap) :=
          World.cell?_setCell_same _ _ _ (by rw [World.cell?_setCell_other _ _ _ _ (by simp)]; exact d1)
        refine bodyPost_ret (v := .agg #[(.bool s), (.slice (some ⟨g, off, none⟩) (m + 1) cap)]) (by simp [results, Try.results31, go_sem, e0', e1']) rfl ?_
        refine ⟨m + 1, by rw [← HL.out]; omega, ?_, hgo, hno, ?_, ?_⟩
        · rw [neg_numV s _ hp]
        · rw [sz_numV s _ (by omega), hv.out]
        · exact (hb.out.setCell (p := ⟨w.heap.size + 1, 0, none⟩) (by simp) _).setCell (p := ⟨w.heap.size + 1, 1, none⟩) (by simp) _
end Go.Proofs.Ytfpelhacbmggeaa
