/- Plain laws on truths: what And and Or come to over any list; two rows of the call's own that grow one beside the other. -/
import Derived.Test.YtfpelhacbmggeaaTruth
import Derived.Maps.AppendAt
import Derived.Below
namespace Go.Proofs.Ytfpelhacbmggeaa
open Go.RowKit
theorem eitherV_eq (one other : Int) (l : List Int) (out : Int) : eitherV one other l out = if l.any (· == one) then one else if l.any (fun a => !(a == other)) then 2 else out := by
  induction l generalizing out with
  | nil => simp [eitherV]
  | cons a l ih =>
    rw [eitherV, List.any_cons, List.any_cons]
    by_cases h1 : a = one
    · simp [h1]
    · have e1 : (a == one) = false := by simpa using h1
      rw [if_neg h1, e1, Bool.false_or]
      by_cases h2 : a = other
      · have e2 : (!(a == other)) = false := by simp [h2]
        rw [if_pos h2, ih, e2, Bool.false_or]
      · have e2 : (!(a == other)) = true := by simp [h2]
        rw [if_neg h2, ih, e2, Bool.true_or, if_pos rfl]
        split <;> (try split) <;> rfl
theorem notV_of (a : Int) (h0 : 0 ≤ a) (h : a < 2) : notV (notV a) = a := by
  unfold notV
  by_cases h1 : a = 0
  · simp [h1]
  · have : a = 1 := by omega
    simp [this]
theorem notV_wrong (a : Int) (h : 2 ≤ a) : notV a = 2 := by unfold notV; rw [if_neg (by omega), if_neg (by omega)]
/-- the three flags of a list: some are true, some false, some neither -/
def anyT (l : List Int) : Bool := l.any (· == 1)
def anyF (l : List Int) : Bool := l.any (· == 0)
def anyW (l : List Int) : Bool := l.any (fun a => decide (2 ≤ a))
theorem anyT_snoc (l : List Int) (a : Int) : anyT (l ++ [a]) = (anyT l || a == 1) := by simp [anyT]
theorem anyF_snoc (l : List Int) (a : Int) : anyF (l ++ [a]) = (anyF l || a == 0) := by simp [anyF]
theorem anyW_snoc (l : List Int) (a : Int) : anyW (l ++ [a]) = (anyW l || decide (2 ≤ a)) := by simp [anyW]
/-- all are from 0 to 3 -/
def Fours (l : List Int) : Prop := ∀ a ∈ l, 0 ≤ a ∧ a ≤ 3
def andV (l : List Int) : Int := eitherV 0 1 l 1
def orV (l : List Int) : Int := eitherV 1 0 l 0
theorem andV_eq (l : List Int) (h : Fours l) : andV l = if anyF l then 0 else if anyW l then 2 else 1 := by
  unfold andV; rw [eitherV_eq]
  by_cases h1 : anyF l
  · have : l.any (· == 0) = true := h1
    simp [h1, this]
  · have h2 : l.any (· == 0) = false := (Bool.not_eq_true _).mp h1
    rw [if_neg (by simp [h2]), if_neg h1]
    have e : (l.any fun a => !(a == 1)) = anyW l := by
      unfold anyW
      rw [Bool.eq_iff_iff, List.any_eq_true, List.any_eq_true]
      constructor
      · rintro ⟨a, ha, hb⟩
        refine ⟨a, ha, ?_⟩
        have := h a ha
        have h3 : a ≠ 0 := fun hz => by rw [List.any_eq_false] at h2; exact h2 a ha (by simp [hz])
        simp at hb ⊢; omega
      · rintro ⟨a, ha, hb⟩
        refine ⟨a, ha, ?_⟩
        simp at hb ⊢; omega
    rw [e]
theorem orV_eq (l : List Int) (h : Fours l) : orV l = if anyT l then 1 else if anyW l then 2 else 0 := by
  unfold orV; rw [eitherV_eq]
  by_cases h1 : anyT l
  · have : l.any (· == 1) = true := h1
    simp [h1, this]
  · have h2 : l.any (· == 1) = false := (Bool.not_eq_true _).mp h1
    rw [if_neg (by simp [h2]), if_neg h1]
    have e : (l.any fun a => !(a == 0)) = anyW l := by
      unfold anyW
      rw [Bool.eq_iff_iff, List.any_eq_true, List.any_eq_true]
      constructor
      · rintro ⟨a, ha, hb⟩
        refine ⟨a, ha, ?_⟩
        have := h a ha
        have h3 : a ≠ 1 := fun hz => by rw [List.any_eq_false] at h2; exact h2 a ha (by simp [hz])
        simp at hb ⊢; omega
      · rintro ⟨a, ha, hb⟩
        refine ⟨a, ha, ?_⟩
        simp at hb ⊢; omega
    rw [e]
theorem fours_not (l : List Int) : Fours (l.map notV) := by
  intro a ha
  obtain ⟨b, _, rfl⟩ := List.mem_map.1 ha
  unfold notV; split <;> (try split) <;> omega
theorem anyT_not (l : List Int) : anyT (l.map notV) = anyF l := by
  unfold anyT anyF
  rw [Bool.eq_iff_iff, List.any_eq_true, List.any_eq_true]
  constructor
  · rintro ⟨a, ha, hb⟩
    obtain ⟨c, hc, rfl⟩ := List.mem_map.1 ha
    refine ⟨c, hc, ?_⟩
    simp only [beq_iff_eq] at hb ⊢
    unfold notV at hb
    by_cases h1 : c = 0
    · exact h1
    · rw [if_neg h1] at hb; split at hb <;> omega
  · rintro ⟨a, ha, hb⟩
    simp only [beq_iff_eq] at hb
    exact ⟨notV a, List.mem_map_of_mem ha, by simp [hb, notV]⟩
theorem anyW_not (l : List Int) (h : Fours l) : anyW (l.map notV) = anyW l := by
  unfold anyW
  rw [Bool.eq_iff_iff, List.any_eq_true, List.any_eq_true]
  constructor
  · rintro ⟨a, ha, hb⟩
    obtain ⟨c, hc, rfl⟩ := List.mem_map.1 ha
    refine ⟨c, hc, ?_⟩
    have := h c hc
    simp only [decide_eq_true_eq] at hb ⊢
    unfold notV at hb
    by_cases h1 : c = 0
    · rw [if_pos h1] at hb; omega
    · rw [if_neg h1] at hb
      by_cases h2 : c = 1
      · rw [if_pos h2] at hb; omega
      · omega
  · rintro ⟨a, ha, hb⟩
    simp only [decide_eq_true_eq] at hb
    exact ⟨notV a, List.mem_map_of_mem ha, by rw [notV_wrong a hb]; rfl⟩
/-- the other one of And is Or of the other ones -/
theorem turned (l : List Int) (h : Fours l) : notV (andV l) = orV (l.map notV) := by
  rw [andV_eq l h, orV_eq _ (fours_not l), anyT_not l, anyW_not l h]
  cases anyF l <;> cases anyW l <;> rfl
theorem fours_mod (zs : List Int) (h : ∀ a ∈ zs, 0 ≤ a) : Fours (zs.map (· % 4)) := by
  intro a ha
  obtain ⟨b, hb, rfl⟩ := List.mem_map.1 ha
  have := h b hb
  omega
/-- two rows of the call's own, which don't share a block -/
def Two (w : World) (B : Nat) (T : TypeId) (va vt : Value) (la lt : List Int) : Prop :=
  w.ownsRow B T 1 va la.length (la.map (Value.int .u8)) ∧ w.ownsRow B T 1 vt lt.length (lt.map (Value.int .u8)) ∧ ∀ g, va.ownBlock = some g → vt.ownBlock = some g → False
theorem two_left {w W w1 : World} {B : Nat} {T : TypeId} {va vt va' : Value} {la lt : List Int} (h : Two w B T va vt la lt) (o : Obj) (hW : W = w.alloc o) (a : Int)
    (hown : w1.ownsRow B T 1 va' (la.length + 1) (la.map (Value.int .u8) ++ [.int .u8 a])) (hg : W.grownBy w1 va.ownBlock) (hat : va'.ownBlock = va.ownBlock ∨ va'.ownBlock = some W.heap.size) :
    Two w1 B T va' vt (la ++ [a]) lt := by
  subst hW
  obtain ⟨h1, h2, h3⟩ := h
  refine ⟨by simpa using hown, (h2.alloc o).kept hg ?_, ?_⟩
  · cases hv : vt.ownBlock with
    | none => exact .inl rfl
    | some g => exact .inr fun e => h3 g e.symm hv
  · intro g e1 e2
    rcases hat with e | e
    · exact h3 g (e ▸ e1) e2
    · have := (h2.lt g e2).2
      rw [e1] at e
      have e' := Option.some.inj e
      simp at e'; omega
theorem two_swap {w : World} {B : Nat} {T : TypeId} {va vt : Value} {la lt : List Int} (h : Two w B T va vt la lt) : Two w B T vt va lt la := ⟨h.2.1, h.1, fun g e1 e2 => h.2.2 g e2 e1⟩
theorem two_alloc {w : World} {B : Nat} {T : TypeId} {va vt : Value} {la lt : List Int} (h : Two w B T va vt la lt) (o : Obj) : Two (w.alloc o) B T va vt la lt := ⟨h.1.alloc o, h.2.1.alloc o, h.2.2⟩
end Go.Proofs.Ytfpelhacbmggeaa
