/- A law on regions that draw their order: one operation that waits for all others is carried out last, by itself; what the others lean on need not outlast it. No program in sight. -/
import Derived.WalkKit
import Derived.Deep.RegionHeld3
namespace Go.Proofs.Ytghimladdioajaa
open Go Go.RowKit
/-- behind all others: the last operation -/
def lastQ (P : Program) (ops : Array Oper) (Q : Exit → Act → World → Prop) (m : Nat) : Exit → Act → World → Prop
  | .normal, a, w => wpOp P ops Q m (fun a' w' => Q .normal a' w') a w
  | .exit i, a, w => Q (.exit i) a w
  | .goto i, a, w => Q (.goto i) a w
  | .ret, a, w => Q .ret a w
  | .panic c, a, w => Q (.panic c) a w
  | .outgrown, a, w => Q .outgrown a w
section
variable {P : Program} {ops : Array Oper} {Q : Exit → Act → World → Prop} {md : Region.Mode} {S : World → Prop} {m : Nat}
theorem lastQ_normal {a : Act} {w : World} (h : wpOp P ops Q m (fun a' w' => Q .normal a' w') a w) : lastQ P ops Q m .normal a w := h
theorem letsOut_last (h : LetsOut (lastQ P ops Q m)) : LetsOut Q := h
theorem operWp_last {o : Oper} {a : Act} {w : World} {K : Act → World → Prop} (h : o.wp P a w K (lastQ P ops Q m)) : o.wp P a w K Q := by
  unfold Oper.wp at *
  generalize (execOp a.eval o).run P w = r at *
  cases r with
  | ok n w' => cases n <;> exact h
  | halt x w' => cases x <;> exact h
theorem wpOp_last {j : Nat} {a : Act} {w : World} {K : Act → World → Prop} (h : wpOp P ops (lastQ P ops Q m) j K a w) : wpOp P ops Q j K a w := by
  unfold wpOp at *
  split
  · simpa [*] using h
  · rename_i o ho
    simp only [ho] at h
    split
    · rename_i hw
      simp only [hw, if_true] at h
      exact h.imp operWp_last (fun x => ⟨x.1, letsOut_last x.2⟩)
    · rename_i hw
      simp only [hw] at h
      exact h
/-- it waits for all others, nobody waits for it; each waits for earlier ones alone -/
def isLast (md : Region.Mode) (ops : Array Oper) (m : Nat) : Bool :=
  (((ops[m]?).map fun om => (List.range ops.size).all fun j => j == m || om.after.any fun e => Region.binds md e && e.on == j).getD false) &&
  (List.range ops.size).all fun j => ((ops[j]?).map fun o => o.after.all fun e => e.on != m && decide (e.on < j)).getD true
theorem isLast_spec (h : isLast md ops m = true) : (∃ om, ops[m]? = some om ∧ ∀ j, j < ops.size → j ≠ m → ∃ e ∈ om.after, Region.binds md e = true ∧ e.on = j) ∧
    ∀ (j : Nat) o, ops[j]? = some o → ∀ e ∈ o.after, e.on ≠ m ∧ e.on < j := by
  unfold isLast at h
  rw [Bool.and_eq_true] at h
  obtain ⟨h1, h2⟩ := h
  refine ⟨?_, ?_⟩
  · cases hm : ops[m]? with
    | none => rw [hm] at h1; cases h1
    | some om =>
      rw [hm] at h1
      simp only [Option.map_some, Option.getD_some, List.all_eq_true, List.mem_range, Bool.or_eq_true, beq_iff_eq, Array.any_eq_true', Bool.and_eq_true] at h1
      refine ⟨om, rfl, fun j hj hne => ?_⟩
      rcases h1 j hj with h | ⟨e, he, h3⟩
      · exact absurd h hne
      · exact ⟨e, he, h3.1, h3.2⟩
  · intro j o ho e he
    have hj : j < ops.size := (Array.getElem?_eq_some_iff.1 ho).1
    have h3 := List.all_eq_true.1 h2 j (List.mem_range.2 hj)
    rw [ho] at h3
    simp only [Option.map_some, Option.getD_some, Array.all_eq_true', Bool.and_eq_true, bne_iff_ne, ne_eq, decide_eq_true_eq] at h3
    exact h3 e he
theorem listed_of {l : Array Bool} {j : Nat} (hj : j < l.size) : l.getD j true = l.getD j false := by simp [hj]
theorem ready_some (h : isLast md ops m = true) {l : Array Bool} (hl : l.size = ops.size) : ∀ (j : Nat), j < ops.size → l.getD j true = false → Region.ready md ops l ≠ [] := by
  intro j
  induction j using Nat.strongRecOn with
  | ind j ih =>
    intro hj hu
    have ho : ops[j]? = some (ops[j]'hj) := Array.getElem?_eq_getElem hj
    by_cases hall : ∀ e ∈ (ops[j]'hj).after, Region.binds md e = true → l.getD e.on false = true
    · have hr : j ∈ Region.ready md ops l := mem_ready.2 ⟨hu, _, ho, hall⟩
      intro h0
      rw [h0] at hr
      cases hr
    · simp only [Classical.not_forall] at hall
      obtain ⟨e, he, hb, hn⟩ := hall
      have hlt := ((isLast_spec h).2 j _ ho e he).2
      refine ih e.on hlt (by omega) ?_
      rw [listed_of (by omega)]
      simpa using hn
theorem last_alone (h : isLast md ops m = true) {l : Array Bool} (hl : l.size = ops.size) (hr : m ∈ Region.ready md ops l) : Region.ready md ops (l.setIfInBounds m true) = [] := by
  obtain ⟨⟨om, hom, hall⟩, _⟩ := isLast_spec h
  obtain ⟨_, om', hom', h2⟩ := mem_ready.1 hr
  rw [hom] at hom'
  cases hom'
  rw [List.eq_nil_iff_forall_not_mem]
  intro j hj
  obtain ⟨hu, o, ho, _⟩ := mem_ready.1 hj
  have hjs : j < ops.size := (Array.getElem?_eq_some_iff.1 ho).1
  by_cases hne : j = m
  · subst hne
    simp [hl, hjs] at hu
  · obtain ⟨e, he, hb, rfl⟩ := hall j hjs hne
    rw [getD_set_ne true (Ne.symm hne), listed_of (by omega), h2 e he hb] at hu
    cases hu
theorem wpAny_last (h : isLast md ops m = true) : ∀ (fuel : Nat) (l : Array Bool) (a : Act) (w : World), l.size = ops.size → l.getD m true = false →
    wpAny P md ops (lastQ P ops Q m) fuel (l.setIfInBounds m true) a w → wpAny P md ops Q (fuel + 1) l a w := by
  have hms : m < ops.size := by
    obtain ⟨⟨om, hom, _⟩, _⟩ := isLast_spec h
    exact (Array.getElem?_eq_some_iff.1 hom).1
  intro fuel
  induction fuel with
  | zero =>
    intro l a w hl hu hw
    refine ⟨fun h0 => absurd h0 (ready_some h hl m hms hu), fun i hi => ?_⟩
    by_cases hne : i = m
    · subst hne
      exact wpOp_mono (fun a' w' hq => ⟨hw.1, hq⟩) hw.2
    · have := ready_mono hi hne
      rw [hw.1] at this
      cases this
  | succ fuel ih =>
    intro l a w hl hu hw
    refine ⟨fun h0 => absurd h0 (ready_some h hl m hms hu), fun i hi => ?_⟩
    by_cases hne : i = m
    · subst hne
      have h0 := last_alone h hl hi
      exact wpOp_mono (fun a' w' hq => ⟨fun _ => hq, by rw [h0]; simp⟩) (hw.1 h0)
    · have h1 := wpOp_last (hw.2 i (ready_mono hi hne))
      refine wpOp_mono (fun a' w' hq => ih (l.setIfInBounds i true) a' w' (by simpa using hl) (by rw [getD_set_ne true hne]; exact hu) ?_) h1
      rw [Array.setIfInBounds_comm _ _ hne]
      exact hq
/-- the beginning: number m is the last -/
theorem wp_region_last {id : Nat} {a : Act} {w : World} (m n : Nat) (hl : isLast .any ops m = true) (hn : ops.size = n + 1) (hm : P.follows .mixedOrders = true) (hS : S w.drew)
    (h : S w.drew → wpAnyH P .any ops (lastQ P ops Q m) S n ((Array.replicate (n + 1) false).setIfInBounds m true) a w.drew) : (Code.region id ops true).wp P Q a w := by
  refine wp_region_any hm ?_
  rw [hn]
  refine wpAny_last hl n _ a _ (by simp [hn]) ?_ (wpAny_of_held _ _ _ _ (h hS))
  have hms : m < ops.size := by
    obtain ⟨⟨om, hom, _⟩, _⟩ := isLast_spec hl
    exact (Array.getElem?_eq_some_iff.1 hom).1
  simp [show m < n + 1 by omega]
end
end Go.Proofs.Ytghimladdioajaa
