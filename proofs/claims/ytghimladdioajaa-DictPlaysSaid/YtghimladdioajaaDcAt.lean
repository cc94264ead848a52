/- A dictionary in memory: its struct, its map, its row of terms; append onto the row. -/
import Derived.Test.YtghimladdioajaaDcMap
import Derived.Test.YtghimladdioajaaTgGood
import Derived.ArgAppend
import Derived.Laws.AppendOwn
namespace Go.Proofs.Ytghimladdioajaa
open Go Go.RowKit
set_option linter.unusedVariables false
set_option linter.unusedSimpArgs false
theorem infoT : (Try.prog.info? 39).map (fun i => (i.zero, i.size, i.bytes)) = some (some .nilIface, 1, 16) := by kernel_rfl
/-- a row of terms: the cells may go on behind its room (what was cut off lies there) -/
def RowT (w : World) (base : Nat) (v : Value) (ts : List Tm) : Prop :=
  (v = .slice none 0 0 ∧ ts = []) ∨
  ∃ g cap cur, v = .slice (some ⟨g, 0, none⟩) ts.length cap ∧ base ≤ g ∧ w.heap[g]? = some (.cells cur 39 (0, 0)) ∧ ts.length ≤ cap ∧ cap ≤ cur.size ∧ cap ≤ maxLen ∧ cur.toList.take ts.length = ts.map tmV
theorem rowT_of_own {w : World} {B base : Nat} {v : Value} {ts : List Tm} (h : w.ownsRow B 39 1 v ts.length (ts.map tmV)) (hB : base ≤ B) : RowT w base v ts := by
  rcases h.2 with ⟨hv, h0⟩ | ⟨g, cap, cur, hv, hb, hg, hn, hc, hs, ht⟩
  · exact .inl ⟨hv, List.eq_nil_of_length_eq_zero h0⟩
  · exact .inr ⟨g, cap, cur, hv, Nat.le_trans hB hb, hg, hn, by omega, hc, by simpa using ht⟩
theorem oneT (x : Tm) : (tmV x).oneCell' = true := by cases x <;> rfl
theorem rowT_form {w : World} {base : Nat} {v : Value} {ts : List Tm} (h : RowT w base v ts) : ∃ a cap, v = .slice a ts.length cap := by
  rcases h with ⟨rfl, rfl⟩ | ⟨g, cap, cur, rfl, _⟩
  · exact ⟨none, 0, rfl⟩
  · exact ⟨_, cap, rfl⟩
theorem rowT_kept {w w' : World} {base : Nat} {v : Value} {ts : List Tm} (h : RowT w base v ts) (hk : ∀ g, v.ownBlock = some g → w'.heap[g]? = w.heap[g]?) : RowT w' base v ts := by
  rcases h with h | ⟨g, cap, cur, rfl, hb, hg, hr⟩
  · exact .inl h
  · exact .inr ⟨g, cap, cur, rfl, hb, (hk g rfl).trans hg, hr⟩
theorem run_append_row (w : World) (ty : TypeId) (base : Nat) (v : Value) (ts : List Tm) (x : Tm) (a : Addr) (hrow : RowT w base v ts) (ha : w.cell? a = some (tmV x)) (hn : ts.length + 1 ≤ 100000) (hb : base ≤ w.heap.size) (hadd : a.add 0 = a) :
    ∃ g cap w', (Builtin.append_ #[87, 87] ty #[v, .slice (some a) 1 1]).run Try.prog w = .ok (.slice (some ⟨g, 0, none⟩) (ts.length + 1) cap) w' ∧
      RowT w' base (.slice (some ⟨g, 0, none⟩) (ts.length + 1) cap) (ts ++ [x]) ∧ w.grownBy w' v.ownBlock ∧ (v.ownBlock = some g ∨ w.heap.size ≤ g) ∧ g < w'.heap.size := by
  cases hi : Try.prog.info? 39 with
  | none =>
    have h := infoT
    rw [hi] at h
    cases h
  | some i0 =>
  have h := infoT
  rw [hi] at h
  simp only [Option.map_some, Option.some.injEq, Prod.mk.injEq] at h
  obtain ⟨hz0, hz1, hz2⟩ := h
  have hone : ∀ u ∈ [tmV x], u.oneCell' = true := by
    intro u hu
    rw [List.mem_singleton] at hu
    subst hu
    exact oneT x
  have hcell : ∀ j u, [tmV x][j]? = some u → w.cell? (a.add j) = some u := by
    intro j u hu
    cases j with
    | zero =>
      rw [hadd, ha]
      exact hu
    | succ j => simp at hu
  have hlen : (ts ++ [x]).length = ts.length + 1 := by simp
  have hown : ∀ {v' : Value} {w' : World} {B : Nat}, base ≤ B → w'.ownsRow B 39 1 v' (ts.length + 1) (ts.map tmV ++ [tmV x]) → ∃ g cap, v' = .slice (some ⟨g, 0, none⟩) (ts.length + 1) cap ∧ RowT w' base v' (ts ++ [x]) ∧ B ≤ g ∧ g < w'.heap.size := by
    intro v' w' B hB ho
    have hr : RowT w' base v' (ts ++ [x]) := rowT_of_own (B := B) (by rw [hlen, List.map_append]; exact ho) hB
    rcases ho.2 with ⟨_, h0⟩ | ⟨g, cap, cur, hv, hbg, hg, _⟩
    · omega
    · exact ⟨g, cap, hv, hr, hbg, (Array.getElem?_eq_some_iff.1 hg).1⟩
  have hb1 : ts.length + 1 ≤ maxLen := by unfold maxLen; omega
  rcases hrow with ⟨rfl, rfl⟩ | ⟨g, cap, cur, rfl, hbg, hg, h1, h2, h3, h4⟩
  · obtain ⟨v', w', hr, ho, hgr, _⟩ := run_append_own (P := Try.prog) w w.heap.size 87 ty 39 i0 .nilIface 1 16 Try.underlying87 hi hz0 hz1 hz2 rfl (by decide) (.slice none 0 0) 0 [] (World.ownsRow_nil w _ _ _) a 1 1 [tmV x] rfl hcell hone (by unfold maxLen; omega) (by omega) (Nat.le_refl _)
    obtain ⟨g, cap, rfl, hrow', hge, hlt⟩ := hown hb (by simpa using ho)
    exact ⟨g, cap, w', hr, hrow', hgr, .inr hge, hlt⟩
  · by_cases hroom : ts.length + 1 ≤ cap
    · have hr := run_append_room (P := Try.prog) w 87 ty 39 i0 Try.underlying87 hi g ts.length cap cur hg a 1 1 [tmV x] (by rw [hz1]; rfl) hcell hone hroom (by rw [hz1]; simp; omega)
      rw [hz1, Nat.mul_one] at hr
      refine ⟨g, cap, _, hr, .inr ⟨g, cap, _, by rw [hlen], hbg, setRow_heap w g cur _ _ _ hg, by rw [hlen]; exact hroom, ?_, h3, ?_⟩, ⟨rfl, rfl, rfl, by simp, fun k _ hk => setRow_other _ _ _ _ (fun e => hk (by simp [e, Value.ownBlock]))⟩, .inl rfl, ?_⟩
      · have hc : cur.toList.length = cur.size := Array.length_toList
        simp only [List.size_toArray, List.length_append, List.length_take, List.length_drop, List.length_singleton, hc]
        omega
      · have hc : cur.toList.length = cur.size := Array.length_toList
        rw [hlen, List.map_append, ← h4]
        refine List.take_left' ?_
        rw [List.length_append, List.length_take, hc]
        simp only [List.length_singleton]
        omega
      · rw [size_setRow]
        exact (Array.getElem?_eq_some_iff.1 hg).1
    · obtain ⟨v', w', hr, ho, hgr⟩ := run_append_arg_grows (P := Try.prog) w 87 ty 39 i0 .nilIface 1 16 Try.underlying87 hi hz0 hz1 hz2 rfl (by decide) ⟨g, 0, none⟩ ts.length cap (ts.map tmV) (by simp) (fun j u hj => by
        have hadd2 : (⟨g, 0, none⟩ : Addr).add j = ⟨g, j, none⟩ := by unfold Addr.add; split <;> simp_all
        rw [hadd2, cell_of_row w g j cur _ (0, 0) hg]
        rw [← h4, List.getElem?_take] at hj
        split at hj
        · simpa using hj
        · cases hj) a 1 1 [tmV x] rfl hcell (by omega) hb1 (by omega)
      obtain ⟨g', cap', rfl, hrow', hge, hlt⟩ := hown hb (by simpa using ho)
      exact ⟨g', cap', w', hr, hrow', ⟨hgr.os, hgr.tape, hgr.output, hgr.size, fun k hk _ => hgr.block k hk (by simp)⟩, .inr hge, hlt⟩
end Go.Proofs.Ytghimladdioajaa
