/- Contracts of slices.Index over a scanner's signs, and of Scanner.Until. -/
import Derived.Test.YteicjmippeobpaaDoorScAgain
import Derived.Deep.QuietTactic
import Derived.BigQuiet
namespace Go.Proofs.YteicjmippeobpaaDoor
open Go Go.RowKit
set_option linter.unusedVariables false
/-- where a sign stands first (the length: nowhere) -/
def ix (v : Int) : List Int → Nat
  | [] => 0
  | n :: t => if n = v then 0 else ix v t + 1
theorem ix_le (v : Int) (l : List Int) : ix v l ≤ l.length := by
  induction l with
  | nil => exact Nat.le_refl _
  | cons n t ih => unfold ix; split <;> simp <;> omega
theorem ix_lt (v : Int) (l : List Int) : ∀ q (h : q < l.length), q < ix v l → l[q]'h ≠ v := by
  induction l with
  | nil => intro q h; simp at h
  | cons n t ih =>
    intro q h hq
    unfold ix at hq
    split at hq
    · omega
    · rcases q with _ | q
      · simpa using (by assumption)
      · simpa using ih q (by simpa using h) (by omega)
theorem ix_at (v : Int) (l : List Int) : ∀ (h : ix v l < l.length), l[ix v l]'h = v := by
  induction l with
  | nil => intro h; simp at h
  | cons n t ih =>
    intro h
    by_cases hn : n = v
    · have e : ix v (n :: t) = 0 := by show (if n = v then 0 else ix v t + 1) = 0; rw [if_pos hn]
      simp only [e]
      exact hn
    · have e : ix v (n :: t) = ix v t + 1 := by show (if n = v then 0 else ix v t + 1) = _; rw [if_neg hn]
      simp only [e] at h ⊢
      simpa using ih (by simpa using h)
def ixV (v : Int) (l : List Int) : Int := if ix v l < l.length then (ix v l : Int) else -1
set_option maxHeartbeats 1600000 in
theorem index_any (L : List Int) (a : Option Addr) (n c : Nat) (v : Int) (w : World) (hn : n = L.length)
    (ha : n = 0 ∨ ∃ g o, a = some ⟨g, o, none⟩ ∧ ∀ j (h : j < L.length), w.cell? ⟨g, o + j, none⟩ = some (.int .i32 (L[j]'h))) (hb : n ≤ 1000000) :
    Calls Tryd.prog 48 #[.slice a n c, .int .i32 v] w fun e w' => e = .returned (.int .i64 (ixV v L)) ∧ w = w' := by
  have HA := Lib.hid ha
  have HI := Lib.hid (ix_le v L)
  have hnl1 : n ≤ L.length := Nat.le_of_eq hn
  have hnl2 : L.length ≤ n := Nat.le_of_eq hn.symm
  obtain ⟨R, hR⟩ : ∃ R, R = ixV v L := ⟨_, rfl⟩
  have HR := Lib.hid hR
  rw [← hR]
  clear ha hn hR
  go_enter Tryd.func48, Tryd.ntmps48
  go_wp2_with fail
  go_loop [8] (fun i => ∃ k : Nat, k ≤ n ∧ i = .int .i64 k ∧ Hid (k ≤ ix v L)) (fun i => n - (intOf i).toNat)
  case atStart => exact ⟨0, by omega, rfl, Lib.hid (by omega)⟩
  case round =>
    obtain ⟨k, hk, rfl, HK⟩ := hrel
    by_cases hlt : k < n
    · have hkL : k < L.length := by omega
      obtain ⟨g, o, rfl, hcell⟩ : ∃ g o, a = some ⟨g, o, none⟩ ∧ w.cell? ⟨g, o + k, none⟩ = some (.int .i32 (L[k]'hkL)) := by
        rcases HA.out with h0 | ⟨g, o, h1, h2⟩
        · omega
        · exact ⟨g, o, h1, h2 k hkL⟩
      by_cases he : L[k]'hkL = v
      · have HQ : Hid ((k : Int) = R) := Lib.hid (by
          have h1 : ix v L = k := by
            have := HK.out
            rcases Nat.lt_or_ge k (ix v L) with h | h
            · exact absurd he (ix_lt v L k hkL h)
            · omega
          rw [HR.out]; unfold ixV; rw [h1, if_pos hkL])
        rw [he] at hcell
        go_wp2_with fail
        go_ret
        exact ⟨by rw [HQ.out]; rfl, rfl⟩
      · have HK2 : Hid (k + 1 ≤ ix v L) := Lib.hid (by
          have := HK.out
          rcases Nat.lt_or_ge k (ix v L) with h | h
          · omega
          · have e : ix v L = k := by omega
            exact absurd (by have := ix_at v L (by omega); simpa only [e] using this) he)
        generalize L[k]'hkL = x at hcell he
        have hne : ¬ v = x := fun h => he h.symm
        go_wp2_with fail
        go_round
        case rel => exact ⟨k + 1, by omega, by go_num, HK2⟩
        case measure => simp [intOf]; omega
    · have HQ : Hid ((-1 : Int) = R) := Lib.hid (by
        have := HK.out
        rw [HR.out]; unfold ixV; rw [if_neg (by omega)])
      go_wp2_with fail
      go_ret
      exact ⟨by rw [← HQ.out]; rfl, rfl⟩
theorem index_part (l : List Int) (p X g cap : Nat) (v : Int) (w : World) (h : ScW l p X g cap w) (hb : l.length ≤ 1000000) :
    Calls Tryd.prog 48 #[.slice (some (partA g cap p)) (l.length - p) (cap - p), .int .i32 v] w fun e w' => e = .returned (.int .i64 (ixV v (l.drop p))) ∧ w = w' := by
  have hp := h.2.2.2.2.1
  have hcap := h.2.2.2.1
  refine index_any (l.drop p) _ _ _ v w (by rw [List.length_drop]) ?_ (by omega)
  by_cases h0 : l.length - p = 0
  · exact .inl h0
  · refine .inr ⟨g, p, ?_, fun j hj => ?_⟩
    · unfold partA; rw [if_neg (by omega)]
    · rw [List.length_drop] at hj
      rw [h.2.2.1 (p + j) (by omega), List.getElem_drop]
theorem slice_from (g n cap p : Nat) (hp : p ≤ n) (hc : n ≤ cap) (w : World) :
    (Instr.slice 71 (.slice (some ⟨g, 0, none⟩) n cap) (some (.int .i64 p)) none none).run Tryd.prog w = .ok (.slice (some (partA g cap p)) (n - p) (cap - p)) w := by
  rw [← partA_some]
  go_simp
set_option maxHeartbeats 1600000 in
theorem until_no (l : List Int) (p X g cap : Nat) (v : Int) (w : World) (h : ScW l p X g cap w) (hb : l.length ≤ 1000000) (hk : ¬ ix v (l.drop p) < (l.drop p).length) :
    Calls Tryd.prog 30 #[.pointer (some ⟨X, 0, none⟩), .int .i32 v] w (Moved l p X g cap (.tuple #[.string ⟨#[]⟩, .bool false]) w) := by
  have HX := Lib.hid (fun n => by
    have := index_part l p X g cap v (w.drewN n) (show ScW l p X g cap (w.drewN n) from h) hb
    unfold ixV at this
    rw [if_neg hk] at this
    exact this.mono (fun e w' h => (⟨h.1, h.2.symm⟩ : e = _ ∧ w' = _)))
  have HS := Lib.hid h
  obtain ⟨c0, c1, f1⟩ := h.cells
  have hsl := slice_from g l.length cap p h.2.2.2.2.1 h.2.2.2.1
  clear h hk f1
  go_enter Tryd.func30, Tryd.ntmps30
  go_wp2_with fail
  go_quiet (first | (go_at_call 48; exact Calls.quiet_of_same (HX.out _)))
  go_wp2_with fail
  go_ret2
  exact ⟨rfl, HS.out, below_drewN (Below.refl _ _) _, fun _ _ _ => rfl⟩
set_option maxHeartbeats 1600000 in
theorem until_yes (l : List Int) (p X g cap : Nat) (v : Int) (w : World) (h : ScW l p X g cap w) (hl : ∀ n ∈ l, SignP n) (hb : l.length ≤ 1000000) (K : Nat) (hK : K = ix v (l.drop p)) (hk : p + K < l.length) :
    Calls Tryd.prog 30 #[.pointer (some ⟨X, 0, none⟩), .int .i32 v] w (Moved l (p + K + 1) X g cap (.tuple #[.string (tBytes ((l.drop p).take K)), .bool true]) w) := by
  have HX := Lib.hid (fun n => by
    have := index_part l p X g cap v (w.drewN n) (show ScW l p X g cap (w.drewN n) from h) hb
    unfold ixV at this
    rw [if_pos (by rw [← hK, List.length_drop]; omega), ← hK] at this
    exact this.mono (fun e w' h => (⟨h.1, h.2.symm⟩ : e = _ ∧ w' = _)))
  have HS := Lib.hid h
  have HL := Lib.hid hl
  obtain ⟨T, hT⟩ : ∃ T, T = tBytes ((l.drop p).take K) := ⟨_, rfl⟩
  have HT := Lib.hid hT
  rw [← hT]
  obtain ⟨c0, c1, f1⟩ := h.cells
  have hcap := h.2.2.2.1
  have hp := h.2.2.2.2.1
  have hsl := slice_from g l.length cap p h.2.2.2.2.1 h.2.2.2.1
  have e1 : ((p : Int) + ((K : Int) + 1)) = ((p + K + 1 : Nat) : Int) := by omega
  have HP : Hid (∀ n, ScW l (p + K + 1) X g cap ((w.drewN n).setCell ⟨X, 1, none⟩ (.int .i64 ((p : Int) + ((K : Int) + 1))))) := Lib.hid (fun n => by
    rw [e1]; exact ScW.put (w := w.drewN n) h (p + K + 1) (by omega))
  have hcv : ∀ n, (convert 71 9 (.slice (some ⟨g, p, none⟩) K (cap - p))).run Tryd.prog ((w.drewN n).setCell ⟨X, 1, none⟩ (.int .i64 ((p : Int) + ((K : Int) + 1)))) = .ok (.string T) ((w.drewN n).setCell ⟨X, 1, none⟩ (.int .i64 ((p : Int) + ((K : Int) + 1)))) := by
    intro n
    have := part_text (HP.out n) hl p (p + K) (cap - p) (by omega) (by omega)
    rw [Nat.add_sub_cancel_left, show partA g cap p = ⟨g, p, none⟩ by unfold partA; rw [if_neg (by omega)]] at this
    rw [this, hT]
    rfl
  clear h hK hl hT e1
  have g1 : IntKind.i64.wrap ((K : Int) + 1) = (K : Int) + 1 := IntWalk.i64_in _ ⟨by omega, by omega⟩
  have g2 : IntKind.i64.wrap ((p : Int) + ((K : Int) + 1)) = (p : Int) + ((K : Int) + 1) := IntWalk.i64_in _ ⟨by omega, by omega⟩
  have g3 : IntKind.i64.wrap ((p : Int) + (K : Int)) = (p : Int) + (K : Int) := IntWalk.i64_in _ ⟨by omega, by omega⟩
  have k0 : ¬ (K : Int) < 0 := by omega
  go_enter Tryd.func30, Tryd.ntmps30
  go_wp2_with fail
  go_quiet (first | (go_at_call 48; exact Calls.quiet_of_same (HX.out _)))
  go_wp2_with fail
  go_ret2
  refine ⟨rfl, HP.out _, ?_⟩
  have hk : SK X w (w.drewN nq) := ⟨below_drewN (Below.refl _ _) _, fun _ _ _ => rfl⟩
  exact hk.trans (SK.set _ _ _)
end Go.Proofs.YteicjmippeobpaaDoor
