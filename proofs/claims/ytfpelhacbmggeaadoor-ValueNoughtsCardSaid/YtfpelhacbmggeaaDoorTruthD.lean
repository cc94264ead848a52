/- Contracts of package value's truths over this seat's program: either over any list that lies in memory, Or, And, Not, and the fixed fact awake of the laws of layer 2. -/
import Derived.Test.YtfpelhacbmggeaaDoorRows
import Derived.Test.YtfpelhacbmggeaaDoorPlain
import Derived.WalkKit
import Derived.ProofKit
import Derived.OpenShut
import Derived.Handy
import Derived.Lib.Hide
import Derived.Below
import Derived.Laws.OwnMore
namespace Go.Proofs.YtfpelhacbmggeaaDoor
open Go.RowKit


/-- one truth, if some have it; else 2, if some are neither; else the other one -/
def eitherV (one other : Int) : List Int → Int → Int
  | [], out => out
  | a :: l, out => if a = one then one else if a = other then eitherV one other l out else eitherV one other l 2

theorem drop_cons' (zs : List Int) (k : Nat) (h : k < zs.length) : zs.drop k = zs[k]?.getD 0 :: zs.drop (k + 1) := by
  rw [List.drop_eq_getElem_cons h]; simp [h]

theorem either_any (b off cap : Nat) (zs : List Int) (one other : Int) (w : World) (hbig : zs.length ≤ 9223372036854775807)
    (hc : ∀ j, j < zs.length → w.cell? ⟨b, off + j, none⟩ = some (.int .u8 (zs[j]?.getD 0))) :
    Calls Tryd.prog 21 #[.slice (some ⟨b, off, none⟩) zs.length cap, .int .u8 one, .int .u8 other] w fun e w' =>
      e = .returned (.int .u8 (eitherV one other zs other)) ∧ w = w' := by
  go_enter Tryd.func21, Tryd.ntmps21
  go_hidden (go_wp2)
  have HC := Lib.hid hc; clear hc
  go_loop [7, 13] (fun o i => ∃ (k : Nat) (out : Int), k ≤ zs.length ∧ i = .int .i64 k ∧ o = .int .u8 out ∧ Hid (eitherV one other (zs.drop k) out = eitherV one other zs other)) (fun _ i => zs.length - (intOf i).toNat)
  case atStart => exact ⟨0, other, Nat.zero_le _, rfl, rfl, Lib.hid rfl⟩
  case round =>
    obtain ⟨k, out, hk, rfl, rfl, hr⟩ := hrel
    have hcell : k < zs.length → w.cell? ⟨b, off + k, none⟩ = some (.int .u8 (zs[k]?.getD 0)) := fun _ => HC.out k (by omega)
    obtain ⟨x, hx⟩ : ∃ x, x = zs[k]?.getD 0 := ⟨_, rfl⟩
    rw [← hx] at hcell
    have HX := Lib.hid hx; clear hx
    go_wp2
    · have hlt : k < zs.length := by assumption
      have h1 : (x == one) = true := by assumption
      have h2 := drop_cons' zs k hlt
      rw [← HX.out] at h2
      go_ret
      refine ⟨ret_one (int_eq ?_), rfl⟩
      rw [← hr.out, h2, eitherV, if_pos (by simpa using h1)]
    · have hlt : k < zs.length := by assumption
      have h1 : (x == one) = false := by assumption
      have h3 : (x != other) = true := by assumption
      have h2 := drop_cons' zs k hlt
      rw [← HX.out] at h2
      go_round
      case rel => exact ⟨k + 1, 2, by omega, by go_num, rfl, Lib.hid (by rw [← hr.out, h2, eitherV, if_neg (by simpa using h1), if_neg (by simpa using h3)])⟩
      case measure => simp [intOf]; omega
    · have hlt : k < zs.length := by assumption
      have h1 : (x == one) = false := by assumption
      have h3 : (x != other) = false := by assumption
      have h2 := drop_cons' zs k hlt
      rw [← HX.out] at h2
      go_round
      case rel => exact ⟨k + 1, out, by omega, by go_num, rfl, Lib.hid (by rw [← hr.out, h2, eitherV, if_neg (by simpa using h1), if_pos (by simpa using h3)])⟩
      case measure => simp [intOf]; omega
    · have : k = zs.length := by omega
      subst this
      go_ret
      refine ⟨ret_one (int_eq ?_), rfl⟩
      rw [← hr.out]
      simp [eitherV]

theorem either_nil (one other : Int) (w : World) :
    Calls Tryd.prog 21 #[.slice none 0 0, .int .u8 one, .int .u8 other] w fun e w' => e = .returned (.int .u8 other) ∧ w = w' := by
  go_enter Tryd.func21, Tryd.ntmps21
  go_wp2
  go_rounds 1
  go_ret
  exact ⟨rfl, rfl⟩

theorem or_any (b off cap : Nat) (zs : List Int) (w : World) (hbig : zs.length ≤ 9223372036854775807)
    (hc : ∀ j, j < zs.length → w.cell? ⟨b, off + j, none⟩ = some (.int .u8 (zs[j]?.getD 0))) :
    Calls Tryd.prog 12 #[.slice (some ⟨b, off, none⟩) zs.length cap] w fun e w' => e = .returned (.int .u8 (eitherV 1 0 zs 0)) ∧ w = w' := by
  have HC := Lib.hid hc; clear hc
  go_enter Tryd.func12, Tryd.ntmps12
  go_wp2_with (go_at_call 21; refine (either_any b off cap zs 1 0 w hbig HC.out).mono ?_; rintro e w' ⟨rfl, rfl⟩)
  go_ret
  exact ⟨rfl, rfl⟩
theorem or_nil (w : World) : Calls Tryd.prog 12 #[.slice none 0 0] w fun e w' => e = .returned (.int .u8 0) ∧ w = w' := by
  go_enter Tryd.func12, Tryd.ntmps12
  go_wp2_with (go_at_call 21; refine (either_nil 1 0 w).mono ?_; rintro e w' ⟨rfl, rfl⟩)
  go_ret
  exact ⟨rfl, rfl⟩
theorem or_own (v : Value) (zs : List Int) (w : World) (B : Nat) (T : TypeId) (hbig : zs.length ≤ 9223372036854775807) (h : w.ownsRow B T 1 v zs.length (zs.map (Value.int .u8))) :
    Calls Tryd.prog 12 #[v] w fun e w' => e = .returned (.int .u8 (eitherV 1 0 zs 0)) ∧ w = w' := by
  have h' := h
  obtain ⟨_, (⟨rfl, h0⟩ | ⟨g, cap, _, rfl, _⟩)⟩ := h'
  · have : zs = [] := List.length_eq_zero_iff.1 h0
    subst this
    exact or_nil w
  · refine or_any g 0 cap zs w hbig fun j hj => ?_
    rw [Nat.zero_add, h.cellAt j (by omega)]
    simp [hj]
/-- the other one -/
def notV (a : Int) : Int := if a = 0 then 1 else if a = 1 then 0 else 2
theorem not_any (a : Int) (w : World) : Calls Tryd.prog 13 #[.int .u8 a] w fun e w' => e = .returned (.int .u8 (notV a)) ∧ w = w' := by
  go_enter Tryd.func13, Tryd.ntmps13
  go_wp2
  all_goals go_ret
  all_goals refine ⟨ret_one (int_eq ?_), rfl⟩
  all_goals (unfold notV; simp_all)

theorem cells_two (w : World) (x y : Int) (T : TypeId) : ∀ j, j < [x, y].length → (w.alloc (.cells #[.int .u8 x, .int .u8 y] T)).cell? ⟨w.heap.size, 0 + j, none⟩ = some (.int .u8 ([x, y][j]?.getD 0)) := by
  intro j hj
  rw [World.cell?_alloc_mark]
  match j, hj with
  | 0, _ => rfl
  | 1, _ => rfl

theorem awake_any (w : World) : Calls Tryd.prog 5 #[] w fun e w' => e = .returned (.bool true) ∧ Grown w w' := by
  go_enter Tryd.func5, Tryd.ntmps5
  go_wp2_with fail
  refine (or_any w.heap.size 0 2 [2, 1] _ (by simp) (cells_two w 2 1 _)).mono ?_
  rintro e w' ⟨rfl, rfl⟩
  have h1 : eitherV 1 0 [2, 1] 0 = 1 := by decide
  rw [h1]
  clear h1
  go_wp2_with fail
  refine (not_any 0 _).mono ?_
  rintro e w' ⟨rfl, rfl⟩
  have h1 : notV 0 = 1 := by decide
  rw [h1]
  clear h1
  go_wp2_with fail
  go_ret
  exact ⟨rfl, (Grown.refl _).alloc _ _⟩
theorem awake_both (w : World) : Calls Tryd.prog 5 #[] w fun e w' => e = .returned (.bool true) ∧ Grown w w' ∧ Below w.heap.size w w' := by
  go_enter Tryd.func5, Tryd.ntmps5
  go_wp2_with fail
  refine (or_any w.heap.size 0 2 [2, 1] _ (by simp) (cells_two w 2 1 _)).mono ?_
  rintro e w' ⟨rfl, rfl⟩
  have h1 : eitherV 1 0 [2, 1] 0 = 1 := by decide
  rw [h1]
  clear h1
  go_wp2_with fail
  refine (not_any 0 _).mono ?_
  rintro e w' ⟨rfl, rfl⟩
  have h1 : notV 0 = 1 := by decide
  rw [h1]
  clear h1
  go_wp2_with fail
  go_ret
  exact ⟨rfl, (Grown.refl _).alloc _ _, (Below.refl _ _).alloc (Nat.le_refl _) _⟩

end Go.Proofs.YtfpelhacbmggeaaDoor
