/- A law on regions that draw their order: what holds at the start, and is kept by each operation that may come up, holds at the end. No program in sight. -/
import Derived.WalkKit
import Derived.Deep.RegionHeld3
namespace Go.Proofs.YteeajhnbifpklaaDoor
open Go Go.RowKit
/-- how many have not come up yet -/
def unl (l : Array Bool) : Nat := (l.toList.filter (fun b => !b)).length
theorem filter_set : ∀ (l : List Bool) (i : Nat), l[i]? = some false → ((l.set i true).filter (fun b => !b)).length + 1 = (l.filter (fun b => !b)).length
  | [], i, h => by simp at h
  | b :: l, 0, h => by
    have : b = false := by simpa using h
    subst this
    simp
  | b :: l, i + 1, h => by
    have ih := filter_set l i (by simpa using h)
    rw [List.set_cons_succ, List.filter_cons, List.filter_cons]
    split
    · simp only [List.length_cons]; omega
    · exact ih
theorem unl_set (l : Array Bool) (i : Nat) (h : l.getD i true = false) : unl (l.setIfInBounds i true) + 1 = unl l := by
  unfold unl
  have hi : l[i]? = some false := by
    rw [Array.getD_eq_getD_getElem?] at h
    cases hh : l[i]? with
    | none => rw [hh] at h; simp at h
    | some b => rw [hh] at h; simpa using h
  rw [Array.toList_setIfInBounds]
  exact filter_set l.toList i (by rw [← hi]; simp)
theorem wpAnyH_inv {P : Program} {md : Region.Mode} {ops : Array Oper} {Q : Exit → Act → World → Prop} {S : World → Prop} (I : Array Bool → Act → World → Prop)
    (hS : ∀ l a w, I l a w → S w)
    (hstep : ∀ l a w, I l a w → ∀ i ∈ Region.ready md ops l, wpOp P ops Q i (fun a' w' => I (l.setIfInBounds i true) a' w') a w)
    (hdone : ∀ l a w, I l a w → Region.ready md ops l = [] → Q .normal a w) :
    ∀ (fuel : Nat) (l : Array Bool) (a : Act) (w : World), unl l ≤ fuel → I l a w → wpAnyH P md ops Q S fuel l a w := by
  intro fuel
  induction fuel with
  | zero =>
    intro l a w hf h
    have hr : Region.ready md ops l = [] := by
      cases hr : Region.ready md ops l with
      | nil => rfl
      | cons x xs =>
        have hx : x ∈ Region.ready md ops l := by rw [hr]; simp
        have := unl_set l x (mem_ready.1 hx).1
        omega
    exact ⟨hr, hdone l a w h hr⟩
  | succ fuel ih =>
    intro l a w hf h
    refine ⟨hdone l a w h, fun i hi => ?_⟩
    refine wpOp_mono (fun a' w' h' => ⟨hS _ _ _ h', ih _ _ _ ?_ h'⟩) (hstep l a w h i hi)
    have := unl_set l i (mem_ready.1 hi).1
    omega
/-- one operation, as the walk wants it -/
theorem inv_step {P : Program} {ops : Array Oper} {Q : Exit → Act → World → Prop} {K : Act → World → Prop} {i : Nat} {o : Oper} {a : Act} {w : World} (ho : ops[i]? = some o)
    (h : ∀ K' : Act → World → Prop, Shut (∀ a w, K a w → K' a w) → if Region.wanted o (yielded ops a.tmps) = true then Oper.wp P o a w K' Q else K' (a.put o.dst undef) w) : wpOp P ops Q i K a w :=
  wpOp_step ho (fun K' hK => h K' hK)
/-- what may come up has not come up yet, and what it waits for has -/
theorem ready_facts {md : Region.Mode} {ops : Array Oper} {l : Array Bool} {i : Nat} {o : Oper} (ho : ops[i]? = some o) (h : i ∈ Region.ready md ops l) : l.getD i true = false ∧ ∀ e ∈ o.after, Region.binds md e = true → l.getD e.on false = true := by
  obtain ⟨h1, o', ho', h2⟩ := mem_ready.1 h
  rw [ho] at ho'
  cases ho'
  exact ⟨h1, h2⟩
end Go.Proofs.YteeajhnbifpklaaDoor
