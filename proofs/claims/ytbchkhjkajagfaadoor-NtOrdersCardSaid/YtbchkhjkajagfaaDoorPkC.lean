/- Texts of this seat put together: ScWrong ScClass ScHex ScBuilder ScQuote ScJoins ScPieces ScUnPlain ScUnlike. -/
import Derived.Test.YtbchkhjkajagfaaDoorPkB
import Derived.Test.YtbchkhjkajagfaaDoorShelf
import Derived.Lib.OthersKept
import Derived.Lib.RuneCount
import Derived.Lib.FrozenHead2
import Derived.Lib.Builder
import Derived.Lib.AppendStr
import Derived.Lib.RuneBytes
import Derived.Lib.Hide
import Derived.WalkKit
import Derived.Laws.Externs
import Derived.Laws.IdiomCopy
import Derived.Laws.BitsLemmas
import Derived.Deep.LoopGhost
import Derived.BigCall
import Derived.WalkMore
import Derived.Deep.RegionHeld3
namespace Go.Proofs.YtbchkhjkajagfaaDoor
open Go Go.RowKit
theorem has_fffd {x : List UInt8} (h : enc 65533 <+: x) : Lib.hasPrefix x [239, 191, 189] = true := by
  have e : enc 65533 = [239, 191, 189] := by decide
  rw [e] at h
  unfold Lib.hasPrefix
  exact List.isPrefixOf_iff_prefix.2 h
theorem no_fffd {x : List UInt8} (h : NoSign x) : Lib.hasPrefix x [239, 191, 189] = false := by
  have e : enc 65533 = [239, 191, 189] := by decide
  have h2 := h 65533 (.inr ⟨by omega, by omega⟩)
  rw [e] at h2
  unfold Lib.hasPrefix
  cases hh : List.isPrefixOf [239, 191, 189] x with
  | false => rfl
  | true => exact absurd (List.isPrefixOf_iff_prefix.1 hh) h2
/-- what Go reads at a place: the sign that stands there; or, at the end of the signs, one byte that is none -/
theorem decode_here {s : ByteArray} {l : List Int} {r : List UInt8} (h : Read s.data.toList l r) {k q : Nat} (hk : k < l.length) (hq : q = (textB (l.take k)).length) :
    Utf8.decode s q = ((l[k]'hk).toNat, (enc (l[k]'hk)).length) := by
  obtain ⟨h1, ⟨t, h2⟩, _⟩ := read_here h hk
  rw [decode_eq, hq, ← h2]
  exact decL_enc h1 t
theorem decode_end {s : ByteArray} {l : List Int} {r : List UInt8} (h : Read s.data.toList l r) {q : Nat} (hr : r ≠ []) (hq : q = (textB (l.take l.length)).length) : Utf8.decode s q = (65533, 1) := by
  rw [decode_eq, hq, read_end h]
  exact decL_none hr h.2.2
theorem rest_ne {s : ByteArray} {l : List Int} {r : List UInt8} (h : Read s.data.toList l r) {q : Nat} (hq : q = (textB (l.take l.length)).length) (hlt : q < s.size) : r ≠ [] := by
  intro hr
  have h1 := read_end h
  rw [← hq] at h1
  have h2 := congrArg List.length h1
  rw [List.length_drop, hr] at h2
  have : s.data.toList.length = s.size := rfl
  simp at h2
  omega
theorem rest_none {s : ByteArray} {l : List Int} {r : List UInt8} (h : Read s.data.toList l r) {k q : Nat} (_hk : k ≤ l.length) (hq : q = (textB (l.take k)).length) (hge : s.size ≤ q) : k = l.length ∧ r = [] := by
  have hs : s.data.toList.length = s.size := rfl
  refine ⟨?_, ?_⟩
  · rcases Nat.lt_or_ge k l.length with h1 | h1
    · have h2 := (read_here h h1).2.2
      rw [← hq] at h2
      omega
    · omega
  · have h1 := congrArg List.length (read_at h k)
    rw [← hq, List.length_drop, List.length_append] at h1
    exact List.eq_nil_of_length_eq_zero (by omega)
def WrongRes (v : Int) (w : World) (e : Ending) (w' : World) : Prop := e = .returned (.int .i64 v) ∧ Below w.heap.size w w'
set_option maxHeartbeats 1600000 in
theorem wrong_any (s : ByteArray) (l : List Int) (r : List UInt8) (w : World) (h : Read s.data.toList l r) (hs : s.size ≤ 1048576) (v : Int) (hv : v = if r = [] then -1 else (l.length : Int)) : Calls Tryd.prog 34 #[.string s] w (WrongRes v w) := by
  have HR := Lib.hid h
  have HV := Lib.hid hv
  have hll : l.length ≤ s.size := read_len h
  clear h hv
  go_enter Tryd.func34, Tryd.ntmps34
  go_wp2_with fail
  go_loopw [3] (fun p wr => ∃ (k q : Nat), k ≤ l.length ∧ q ≤ s.size ∧ Hid (q = (textB (l.take k)).length) ∧ p = .int .i64 k ∧ wr.heap[w.heap.size]? = some (.stringIter s q) ∧ Below w.heap.size w wr)
    (fun _ wr => s.size - wr.iterPos w.heap.size)
  case atStart => exact ⟨0, 0, by omega, by omega, Lib.hid rfl, rfl, World.iter_heap w s 0, (Below.refl _ w).alloc (Nat.le_refl _) _⟩
  case round =>
    obtain ⟨k, q, hk, hq, HQ, rfl, hit, hb⟩ := hrel
    by_cases hlt : q < s.size
    · have hnx : ∀ ty, (Instr.next (.pointer (some ⟨w.heap.size, 0, none⟩)) true ty).run Tryd.prog wr = _ := fun ty => Lib.run_next_any_at wr w.heap.size s q ty hit hlt
      by_cases hk' : k < l.length
      · rw [decode_here HR.out hk' HQ.out] at hnx
        have hn := (read_here HR.out hk').1
        have hit2 := Lib.iterAt_heap wr w.heap.size s q (q + (enc (l[k]'hk')).length) hit
        have hbw2 := Lib.below_iterAt hb (k := w.heap.size) (Nat.le_refl _) s (q + (enc (l[k]'hk')).length)
        have HN : Hid (q + (enc (l[k]'hk')).length = (textB (l.take (k + 1))).length) := Lib.hid (by rw [read_next HR.out hk', ← HQ.out])
        have hle : q + (enc (l[k]'hk')).length ≤ s.size := by have := read_le HR.out (k + 1); rw [← HN.out] at this; exact this
        have hpos := enc_pos (l[k]'hk')
        have HP := Lib.hid (read_here HR.out hk').2.1
        have hn0 : (((l[k]'hk').toNat : Nat) : Int) = l[k]'hk' := by unfold SignP at hn; omega
        rw [hn0] at hnx
        clear hn0
        generalize l[k]'hk' = n at hnx hit2 hbw2 HN hle hpos HP hn
        have HB := Lib.hid hbw2
        have HIt := Lib.hid hit2
        have hm : s.size - wr.iterPos w.heap.size = s.size - q := by simp [World.iterPos, hit]
        have hm2 : s.size - (wr.iterAt w.heap.size s (q + (enc n).length)).iterPos w.heap.size = s.size - (q + (enc n).length) := by simp [World.iterPos, hit2]
        have HM := Lib.hid hm
        have HM2 := Lib.hid hm2
        clear hm hm2 hit2 hbw2 hb hit
        by_cases h3 : n = 65533
        · subst h3
          have HF : Hid (Lib.hasPrefix (s.extract q s.size).data.toList [239, 191, 189] = true) := Lib.hid (by rw [drop_bytes, HQ.out]; exact has_fffd HP.out)
          go_wp2_with (go_at_call 62; refine (Tryd.strings_HasPrefix _ _ _).mono ?_; rintro e w' ⟨rfl, rfl⟩; rw [show Lib.hasPrefix (s.extract q s.size).data.toList _ = true from HF.out])
          go_roundw
          case rel => exact ⟨k + 1, q + (enc 65533).length, by omega, hle, HN, by go_num, HIt.out, HB.out⟩
          case measure => rw [HM.out, HM2.out]; omega
        · have h4 : (n == 65533) = false := beq_eq_false_iff_ne.mpr h3
          clear h3
          go_wp2_with fail
          go_roundw
          case rel => exact ⟨k + 1, q + (enc n).length, by omega, hle, HN, by go_num, HIt.out, HB.out⟩
          case measure => rw [HM.out, HM2.out]; omega
      · obtain rfl : k = l.length := by omega
        have hr := rest_ne HR.out HQ.out hlt
        rw [decode_end HR.out hr HQ.out] at hnx
        have HF : Hid (Lib.hasPrefix (s.extract q s.size).data.toList [239, 191, 189] = false) := Lib.hid (by rw [drop_bytes, HQ.out, read_end HR.out]; exact no_fffd HR.out.2.2)
        have HB := Lib.hid (Lib.below_iterAt hb (k := w.heap.size) (Nat.le_refl _) s (q + 1))
        have HVr : Hid (v = l.length) := Lib.hid (by rw [HV.out, if_neg hr])
        clear hb hit hr
        go_wp2_with (go_at_call 62; refine (Tryd.strings_HasPrefix _ _ _).mono ?_; rintro e w' ⟨rfl, rfl⟩; rw [show Lib.hasPrefix (s.extract q s.size).data.toList _ = false from HF.out])
        go_ret
        exact ⟨ret_int HVr.out.symm, HB.out⟩
    · have hnx : ∀ ty, (Instr.next (.pointer (some ⟨w.heap.size, 0, none⟩)) true ty).run Tryd.prog wr = _ := fun ty => Lib.run_next_end_at wr w.heap.size s q ty hit hlt
      obtain ⟨h1, h2⟩ := rest_none HR.out hk HQ.out (by omega)
      have HVr : Hid (v = -1) := Lib.hid (by rw [HV.out, if_pos h2])
      clear h1 h2
      go_wp2_with fail
      go_ret
      exact ⟨ret_int HVr.out.symm, hb⟩
theorem good_any (s : ByteArray) (l : List Int) (r : List UInt8) (w : World) (h : Read s.data.toList l r) (hs : s.size ≤ 1048576) :
    Calls Tryd.prog 115 #[.string s] w fun e w' => e = .returned (.bool r.isEmpty) ∧ Below w.heap.size w w' := by
  cases r with
  | nil =>
    have HW := Lib.hid (wrong_any s l [] w h hs (-1) (by rw [if_pos rfl]))
    clear h
    go_enter Tryd.func115, Tryd.ntmps115
    go_wp2_with fail
    refine HW.out.mono ?_
    rintro e w' ⟨rfl, hb⟩
    go_wp2_with fail
    go_ret
    exact ⟨rfl, hb⟩
  | cons b r =>
    have HW := Lib.hid (wrong_any s l (b :: r) w h hs l.length (by rw [if_neg (by simp)]))
    clear h
    go_enter Tryd.func115, Tryd.ntmps115
    go_wp2_with fail
    refine HW.out.mono ?_
    rintro e w' ⟨rfl, hb⟩
    go_wp2_with fail
    go_ret
    exact ⟨rfl, hb⟩
theorem count_from {s : ByteArray} {l : List Int} (h : Read s.data.toList l []) : ∀ (m k q fuel : Nat), l.length - k ≤ m → k ≤ l.length → q = (textB (l.take k)).length → s.size - q ≤ fuel → Lib.runeCountFrom s fuel q = l.length - k := by
  have hs : s.data.toList.length = s.size := rfl
  intro m
  induction m with
  | zero =>
    intro k q fuel h1 h2 h3 h4
    have hk : k = l.length := by omega
    have hz : s.data.toList.length = (textB l).length := by rw [h.1, List.append_nil]
    have hq : q = (textB l).length := by rw [h3, hk, List.take_length]
    rw [Lib.runeCountFrom_end s fuel q (by omega)]
    omega
  | succ m ih =>
    intro k q fuel h1 h2 h3 h4
    by_cases hk : k < l.length
    · have hlt := (read_here h hk).2.2
      rw [← h3] at hlt
      have hd := decode_here h hk h3
      have hp := (enc_pos (l[k]'hk)).1
      obtain ⟨f, rfl⟩ : ∃ f, fuel = f + 1 := ⟨fuel - 1, by omega⟩
      unfold Lib.runeCountFrom
      rw [if_pos (by omega), hd]
      have := ih (k + 1) (q + (enc (l[k]'hk)).length) f (by omega) (by omega) (by rw [read_next h hk, ← h3]) (by omega)
      simp only at this ⊢
      rw [this]; omega
    · have hk : k = l.length := by omega
      have hz : s.data.toList.length = (textB l).length := by rw [h.1, List.append_nil]
      have hq : q = (textB l).length := by rw [h3, hk, List.take_length]
      rw [Lib.runeCountFrom_end s fuel q (by omega)]
      omega
theorem count_all {s : ByteArray} {l : List Int} (h : Read s.data.toList l []) : Lib.runeCount s = l.length := by
  have := count_from h l.length 0 0 s.size (by omega) (by omega) rfl (by omega)
  unfold Lib.runeCount
  rw [this]; omega
theorem len_any (s : ByteArray) (l : List Int) (r : List UInt8) (w : World) (h : Read s.data.toList l r) (hs : s.size ≤ 1048576) :
    Calls Tryd.prog 28 #[.string s] w fun e w' => e = .returned (.int .i64 l.length) ∧ Below w.heap.size w w' := by
  cases r with
  | nil =>
    have HW := Lib.hid (wrong_any s l [] w h hs (-1) (by rw [if_pos rfl]))
    have HC := Lib.hid (count_all h)
    clear h
    go_enter Tryd.func28, Tryd.ntmps28
    go_wp2_with fail
    refine HW.out.mono ?_
    rintro e w' ⟨rfl, hb⟩
    go_wp2_with fail
    refine (Tryd.utf8_RuneCountInString s _ (by omega)).mono ?_
    rintro e w2 ⟨rfl, pos, rfl⟩
    rw [HC.out]
    go_wp2_with fail
    go_ret
    exact ⟨rfl, hb.alloc hb.size _⟩
  | cons b r =>
    have HW := Lib.hid (wrong_any s l (b :: r) w h hs l.length (by rw [if_neg (by simp)]))
    clear h
    go_enter Tryd.func28, Tryd.ntmps28
    go_wp2_with fail
    refine HW.out.mono ?_
    rintro e w' ⟨rfl, hb⟩
    go_wp2_with fail
    go_ret
    exact ⟨rfl, hb⟩
end Go.Proofs.YtbchkhjkajagfaaDoor
namespace Go.Proofs.YtbchkhjkajagfaaDoor
open Go Go.RowKit
/-- a sign's class -/
def classV (n : Int) : Int :=
  if ¬ SignP n then 6 else if n = 32 ∨ n = 9 ∨ n = 10 ∨ n = 13 then 0 else if (97 ≤ n ∧ n ≤ 122) ∨ (65 ≤ n ∧ n ≤ 90) then 1
  else if 48 ≤ n ∧ n ≤ 57 then 2 else if 33 ≤ n ∧ n ≤ 126 then 3 else if n < 160 then 4 else 5
theorem class_bad {n : Int} (h : ¬ SignP n) : classV n = 6 := by unfold classV; rw [if_pos h]
theorem class_blank {n : Int} (h : n = 32 ∨ n = 9 ∨ n = 10 ∨ n = 13) : classV n = 0 := by
  unfold classV SignP; rw [if_neg (by omega), if_pos h]
theorem class_other {n : Int} (hs : SignP n) (h : ¬ (n = 32 ∨ n = 9 ∨ n = 10 ∨ n = 13)) (v : Int)
    (hv : v = if (97 ≤ n ∧ n ≤ 122) ∨ (65 ≤ n ∧ n ≤ 90) then 1 else if 48 ≤ n ∧ n ≤ 57 then 2 else if 33 ≤ n ∧ n ≤ 126 then 3 else if n < 160 then 4 else 5) : classV n = v := by
  unfold classV; rw [if_neg (by simpa using hs), if_neg h, hv]
theorem valid_yes {n : Int} (h : SignP n) : Lib.validRune n = true := decide_eq_true h
theorem valid_no {n : Int} (h : ¬ SignP n) : Lib.validRune n = false := decide_eq_false h
set_option maxHeartbeats 1600000 in
theorem class_any (n : Int) (w : World) (n0 : -2147483648 ≤ n) (n1 : n ≤ 2147483647) : Calls Tryd.prog 82 #[.int .i32 n] w fun e w' => e = .returned (.int .i64 (classV n)) ∧ w' = w := by
  by_cases hs : SignP n
  · have HV := Lib.hid (valid_yes hs)
    by_cases hb : n = 32 ∨ n = 9 ∨ n = 10 ∨ n = 13
    · rw [class_blank hb]
      clear hs
      rcases hb with rfl | rfl | rfl | rfl
      all_goals
        go_enter Tryd.func82, Tryd.ntmps82
        go_wp2_with (go_at_call 91; refine (Tryd.utf8_ValidRune _ _).mono ?_; rintro e w' ⟨rfl, rfl⟩; rw [HV.out])
        go_ret
        exact ⟨rfl, rfl⟩
    · have HC := Lib.hid (class_other hs hb)
      have e1 : (n == 32) = false := beq_eq_false_iff_ne.mpr (by omega)
      have e2 : (n == 9) = false := beq_eq_false_iff_ne.mpr (by omega)
      have e3 : (n == 10) = false := beq_eq_false_iff_ne.mpr (by omega)
      have e4 : (n == 13) = false := beq_eq_false_iff_ne.mpr (by omega)
      clear hs hb
      go_enter Tryd.func82, Tryd.ntmps82
      go_wp2_with (go_at_call 91; refine (Tryd.utf8_ValidRune _ _).mono ?_; rintro e w' ⟨rfl, rfl⟩; rw [HV.out])
      all_goals go_ret
      all_goals refine ⟨ret_int (HC.out _ ?_).symm, rfl⟩
      all_goals (repeat' split) <;> omega
  · have HV := Lib.hid (valid_no hs)
    rw [class_bad hs]
    clear hs
    go_enter Tryd.func82, Tryd.ntmps82
    go_wp2_with (go_at_call 91; refine (Tryd.utf8_ValidRune _ _).mono ?_; rintro e w' ⟨rfl, rfl⟩; rw [HV.out])
    go_ret
    exact ⟨rfl, rfl⟩
set_option maxHeartbeats 1600000 in
theorem rclass_any (n : Int) (w : World) (n0 : -9223372036854775808 ≤ n) (n1 : n ≤ 9223372036854775807) : Calls Tryd.prog 71 #[.int .i64 n] w fun e w' => e = .returned (.int .i64 (classV n)) ∧ w' = w := by
  by_cases hs : SignP n
  · have HV := Lib.hid (sign_yes n · hs)
    by_cases hb : n = 32 ∨ n = 9 ∨ n = 10 ∨ n = 13
    · rw [class_blank hb]
      clear hs
      rcases hb with rfl | rfl | rfl | rfl
      all_goals
        go_enter Tryd.func71, Tryd.ntmps71
        go_wp2_with (go_at_call 60; refine (HV.out _).mono ?_; rintro e w' ⟨rfl, rfl⟩)
        go_ret
        exact ⟨rfl, rfl⟩
    · have HC := Lib.hid (class_other hs hb)
      have e1 : (n == 32) = false := beq_eq_false_iff_ne.mpr (by omega)
      have e2 : (n == 9) = false := beq_eq_false_iff_ne.mpr (by omega)
      have e3 : (n == 10) = false := beq_eq_false_iff_ne.mpr (by omega)
      have e4 : (n == 13) = false := beq_eq_false_iff_ne.mpr (by omega)
      clear hs hb
      go_enter Tryd.func71, Tryd.ntmps71
      go_wp2_with (go_at_call 60; refine (HV.out _).mono ?_; rintro e w' ⟨rfl, rfl⟩)
      all_goals go_ret
      all_goals refine ⟨ret_int (HC.out _ ?_).symm, rfl⟩
      all_goals (repeat' split) <;> omega
  · have HV := Lib.hid (sign_no n · hs)
    rw [class_bad hs]
    clear hs
    go_enter Tryd.func71, Tryd.ntmps71
    go_wp2_with (go_at_call 60; refine (HV.out _).mono ?_; rintro e w' ⟨rfl, rfl⟩)
    go_ret
    exact ⟨rfl, rfl⟩
end Go.Proofs.YtbchkhjkajagfaaDoor
namespace Go.Proofs.YtbchkhjkajagfaaDoor
open Go Go.RowKit
/-- a sign's number as a digit -/
def hexV (n : Int) : Int := if 48 ≤ n ∧ n ≤ 57 then n - 48 else if 97 ≤ n ∧ n ≤ 102 then n - 87 else if 65 ≤ n ∧ n ≤ 70 then n - 55 else -1
theorem hex_any (n : Int) (w : World) (n0 : -2147483648 ≤ n) (n1 : n ≤ 2147483647) : Calls Tryd.prog 93 #[.int .i32 n] w fun e w' => e = .returned (.int .i64 (hexV n)) ∧ w' = w := by
  go_enter Tryd.func93, Tryd.ntmps93
  go_wp2_with fail
  all_goals go_ret
  all_goals refine ⟨ret_int ?_, rfl⟩
  all_goals unfold hexV
  all_goals (repeat' split) <;> omega
set_option maxHeartbeats 6400000 in
theorem rhex_any (n : Int) (w : World) (n0 : -9223372036854775808 ≤ n) (n1 : n ≤ 9223372036854775807) : Calls Tryd.prog 70 #[.int .i64 n] w fun e w' => e = .returned (.int .i64 (hexV n)) ∧ w = w' := by
  go_enter Tryd.func70, Tryd.ntmps70
  go_wp2_with fail
  go_loop [5] (fun i => ∃ k : Nat, k ≤ 16 ∧ i = .int .i64 k ∧ Hid (hexV n < k → hexV n = -1)) (fun i => 16 - (intOf i).toNat)
  case atStart => exact ⟨0, by omega, rfl, Lib.hid (fun h => by unfold hexV at h ⊢; (repeat' split at h) <;> (repeat' split) <;> omega)⟩
  case round =>
    obtain ⟨k, hk, rfl, HI⟩ := hrel
    rcases (by omega : k = 0 ∨ k = 1 ∨ k = 2 ∨ k = 3 ∨ k = 4 ∨ k = 5 ∨ k = 6 ∨ k = 7 ∨ k = 8 ∨ k = 9 ∨ k = 10 ∨ k = 11 ∨ k = 12 ∨ k = 13 ∨ k = 14 ∨ k = 15 ∨ k = 16) with rfl | rfl | rfl | rfl | rfl | rfl | rfl | rfl | rfl | rfl | rfl | rfl | rfl | rfl | rfl | rfl | rfl
    · have t1 : (((⟨#[48, 49, 50, 51, 52, 53, 54, 55, 56, 57, 97, 98, 99, 100, 101, 102]⟩ : ByteArray)[0]'(by decide)).toNat) = 48 := by decide
      have t2 : (((⟨#[48, 49, 50, 51, 52, 53, 54, 55, 56, 57, 65, 66, 67, 68, 69, 70]⟩ : ByteArray)[0]'(by decide)).toNat) = 48 := by decide
      by_cases h1 : n = 48
      · subst h1
        go_wp2_with fail
        go_ret
        exact ⟨rfl, rfl⟩
      have e1 : (n == 48) = false := beq_eq_false_iff_ne.mpr h1
      have HI2 : Hid (hexV n < (1 : Nat) → hexV n = -1) := Lib.hid (fun h => by have := HI.out; unfold hexV at this h ⊢; (repeat' split at this) <;> (repeat' split at h) <;> (repeat' split) <;> omega)
      clear h1 HI
      go_wp2_with fail
      go_round
      case rel => exact ⟨1, by omega, rfl, HI2⟩
      case measure => simp [intOf]
    · have t1 : (((⟨#[48, 49, 50, 51, 52, 53, 54, 55, 56, 57, 97, 98, 99, 100, 101, 102]⟩ : ByteArray)[1]'(by decide)).toNat) = 49 := by decide
      have t2 : (((⟨#[48, 49, 50, 51, 52, 53, 54, 55, 56, 57, 65, 66, 67, 68, 69, 70]⟩ : ByteArray)[1]'(by decide)).toNat) = 49 := by decide
      by_cases h1 : n = 49
      · subst h1
        go_wp2_with fail
        go_ret
        exact ⟨rfl, rfl⟩
      have e1 : (n == 49) = false := beq_eq_false_iff_ne.mpr h1
      have HI2 : Hid (hexV n < (2 : Nat) → hexV n = -1) := Lib.hid (fun h => by have := HI.out; unfold hexV at this h ⊢; (repeat' split at this) <;> (repeat' split at h) <;> (repeat' split) <;> omega)
      clear h1 HI
      go_wp2_with fail
      go_round
      case rel => exact ⟨2, by omega, rfl, HI2⟩
      case measure => simp [intOf]
    · have t1 : (((⟨#[48, 49, 50, 51, 52, 53, 54, 55, 56, 57, 97, 98, 99, 100, 101, 102]⟩ : ByteArray)[2]'(by decide)).toNat) = 50 := by decide
      have t2 : (((⟨#[48, 49, 50, 51, 52, 53, 54, 55, 56, 57, 65, 66, 67, 68, 69, 70]⟩ : ByteArray)[2]'(by decide)).toNat) = 50 := by decide
      by_cases h1 : n = 50
      · subst h1
        go_wp2_with fail
        go_ret
        exact ⟨rfl, rfl⟩
      have e1 : (n == 50) = false := beq_eq_false_iff_ne.mpr h1
      have HI2 : Hid (hexV n < (3 : Nat) → hexV n = -1) := Lib.hid (fun h => by have := HI.out; unfold hexV at this h ⊢; (repeat' split at this) <;> (repeat' split at h) <;> (repeat' split) <;> omega)
      clear h1 HI
      go_wp2_with fail
      go_round
      case rel => exact ⟨3, by omega, rfl, HI2⟩
      case measure => simp [intOf]
    · have t1 : (((⟨#[48, 49, 50, 51, 52, 53, 54, 55, 56, 57, 97, 98, 99, 100, 101, 102]⟩ : ByteArray)[3]'(by decide)).toNat) = 51 := by decide
      have t2 : (((⟨#[48, 49, 50, 51, 52, 53, 54, 55, 56, 57, 65, 66, 67, 68, 69, 70]⟩ : ByteArray)[3]'(by decide)).toNat) = 51 := by decide
      by_cases h1 : n = 51
      · subst h1
        go_wp2_with fail
        go_ret
        exact ⟨rfl, rfl⟩
      have e1 : (n == 51) = false := beq_eq_false_iff_ne.mpr h1
      have HI2 : Hid (hexV n < (4 : Nat) → hexV n = -1) := Lib.hid (fun h => by have := HI.out; unfold hexV at this h ⊢; (repeat' split at this) <;> (repeat' split at h) <;> (repeat' split) <;> omega)
      clear h1 HI
      go_wp2_with fail
      go_round
      case rel => exact ⟨4, by omega, rfl, HI2⟩
      case measure => simp [intOf]
    · have t1 : (((⟨#[48, 49, 50, 51, 52, 53, 54, 55, 56, 57, 97, 98, 99, 100, 101, 102]⟩ : ByteArray)[4]'(by decide)).toNat) = 52 := by decide
      have t2 : (((⟨#[48, 49, 50, 51, 52, 53, 54, 55, 56, 57, 65, 66, 67, 68, 69, 70]⟩ : ByteArray)[4]'(by decide)).toNat) = 52 := by decide
      by_cases h1 : n = 52
      · subst h1
        go_wp2_with fail
        go_ret
        exact ⟨rfl, rfl⟩
      have e1 : (n == 52) = false := beq_eq_false_iff_ne.mpr h1
      have HI2 : Hid (hexV n < (5 : Nat) → hexV n = -1) := Lib.hid (fun h => by have := HI.out; unfold hexV at this h ⊢; (repeat' split at this) <;> (repeat' split at h) <;> (repeat' split) <;> omega)
      clear h1 HI
      go_wp2_with fail
      go_round
      case rel => exact ⟨5, by omega, rfl, HI2⟩
      case measure => simp [intOf]
    · have t1 : (((⟨#[48, 49, 50, 51, 52, 53, 54, 55, 56, 57, 97, 98, 99, 100, 101, 102]⟩ : ByteArray)[5]'(by decide)).toNat) = 53 := by decide
      have t2 : (((⟨#[48, 49, 50, 51, 52, 53, 54, 55, 56, 57, 65, 66, 67, 68, 69, 70]⟩ : ByteArray)[5]'(by decide)).toNat) = 53 := by decide
      by_cases h1 : n = 53
      · subst h1
        go_wp2_with fail
        go_ret
        exact ⟨rfl, rfl⟩
      have e1 : (n == 53) = false := beq_eq_false_iff_ne.mpr h1
      have HI2 : Hid (hexV n < (6 : Nat) → hexV n = -1) := Lib.hid (fun h => by have := HI.out; unfold hexV at this h ⊢; (repeat' split at this) <;> (repeat' split at h) <;> (repeat' split) <;> omega)
      clear h1 HI
      go_wp2_with fail
      go_round
      case rel => exact ⟨6, by omega, rfl, HI2⟩
      case measure => simp [intOf]
    · have t1 : (((⟨#[48, 49, 50, 51, 52, 53, 54, 55, 56, 57, 97, 98, 99, 100, 101, 102]⟩ : ByteArray)[6]'(by decide)).toNat) = 54 := by decide
      have t2 : (((⟨#[48, 49, 50, 51, 52, 53, 54, 55, 56, 57, 65, 66, 67, 68, 69, 70]⟩ : ByteArray)[6]'(by decide)).toNat) = 54 := by decide
      by_cases h1 : n = 54
      · subst h1
        go_wp2_with fail
        go_ret
        exact ⟨rfl, rfl⟩
      have e1 : (n == 54) = false := beq_eq_false_iff_ne.mpr h1
      have HI2 : Hid (hexV n < (7 : Nat) → hexV n = -1) := Lib.hid (fun h => by have := HI.out; unfold hexV at this h ⊢; (repeat' split at this) <;> (repeat' split at h) <;> (repeat' split) <;> omega)
      clear h1 HI
      go_wp2_with fail
      go_round
      case rel => exact ⟨7, by omega, rfl, HI2⟩
      case measure => simp [intOf]
    · have t1 : (((⟨#[48, 49, 50, 51, 52, 53, 54, 55, 56, 57, 97, 98, 99, 100, 101, 102]⟩ : ByteArray)[7]'(by decide)).toNat) = 55 := by decide
      have t2 : (((⟨#[48, 49, 50, 51, 52, 53, 54, 55, 56, 57, 65, 66, 67, 68, 69, 70]⟩ : ByteArray)[7]'(by decide)).toNat) = 55 := by decide
      by_cases h1 : n = 55
      · subst h1
        go_wp2_with fail
        go_ret
        exact ⟨rfl, rfl⟩
      have e1 : (n == 55) = false := beq_eq_false_iff_ne.mpr h1
      have HI2 : Hid (hexV n < (8 : Nat) → hexV n = -1) := Lib.hid (fun h => by have := HI.out; unfold hexV at this h ⊢; (repeat' split at this) <;> (repeat' split at h) <;> (repeat' split) <;> omega)
      clear h1 HI
      go_wp2_with fail
      go_round
      case rel => exact ⟨8, by omega, rfl, HI2⟩
      case measure => simp [intOf]
    · have t1 : (((⟨#[48, 49, 50, 51, 52, 53, 54, 55, 56, 57, 97, 98, 99, 100, 101, 102]⟩ : ByteArray)[8]'(by decide)).toNat) = 56 := by decide
      have t2 : (((⟨#[48, 49, 50, 51, 52, 53, 54, 55, 56, 57, 65, 66, 67, 68, 69, 70]⟩ : ByteArray)[8]'(by decide)).toNat) = 56 := by decide
      by_cases h1 : n = 56
      · subst h1
        go_wp2_with fail
        go_ret
        exact ⟨rfl, rfl⟩
      have e1 : (n == 56) = false := beq_eq_false_iff_ne.mpr h1
      have HI2 : Hid (hexV n < (9 : Nat) → hexV n = -1) := Lib.hid (fun h => by have := HI.out; unfold hexV at this h ⊢; (repeat' split at this) <;> (repeat' split at h) <;> (repeat' split) <;> omega)
      clear h1 HI
      go_wp2_with fail
      go_round
      case rel => exact ⟨9, by omega, rfl, HI2⟩
      case measure => simp [intOf]
    · have t1 : (((⟨#[48, 49, 50, 51, 52, 53, 54, 55, 56, 57, 97, 98, 99, 100, 101, 102]⟩ : ByteArray)[9]'(by decide)).toNat) = 57 := by decide
      have t2 : (((⟨#[48, 49, 50, 51, 52, 53, 54, 55, 56, 57, 65, 66, 67, 68, 69, 70]⟩ : ByteArray)[9]'(by decide)).toNat) = 57 := by decide
      by_cases h1 : n = 57
      · subst h1
        go_wp2_with fail
        go_ret
        exact ⟨rfl, rfl⟩
      have e1 : (n == 57) = false := beq_eq_false_iff_ne.mpr h1
      have HI2 : Hid (hexV n < (10 : Nat) → hexV n = -1) := Lib.hid (fun h => by have := HI.out; unfold hexV at this h ⊢; (repeat' split at this) <;> (repeat' split at h) <;> (repeat' split) <;> omega)
      clear h1 HI
      go_wp2_with fail
      go_round
      case rel => exact ⟨10, by omega, rfl, HI2⟩
      case measure => simp [intOf]
    · have t1 : (((⟨#[48, 49, 50, 51, 52, 53, 54, 55, 56, 57, 97, 98, 99, 100, 101, 102]⟩ : ByteArray)[10]'(by decide)).toNat) = 97 := by decide
      have t2 : (((⟨#[48, 49, 50, 51, 52, 53, 54, 55, 56, 57, 65, 66, 67, 68, 69, 70]⟩ : ByteArray)[10]'(by decide)).toNat) = 65 := by decide
      by_cases h1 : n = 97
      · subst h1
        go_wp2_with fail
        go_ret
        exact ⟨rfl, rfl⟩
      by_cases h2 : n = 65
      · subst h2
        go_wp2_with fail
        go_ret
        exact ⟨rfl, rfl⟩
      have e1 : (n == 97) = false := beq_eq_false_iff_ne.mpr h1
      have e2 : (n == 65) = false := beq_eq_false_iff_ne.mpr h2
      have HI2 : Hid (hexV n < (11 : Nat) → hexV n = -1) := Lib.hid (fun h => by have := HI.out; unfold hexV at this h ⊢; (repeat' split at this) <;> (repeat' split at h) <;> (repeat' split) <;> omega)
      clear h1 h2 HI
      go_wp2_with fail
      go_round
      case rel => exact ⟨11, by omega, rfl, HI2⟩
      case measure => simp [intOf]
    · have t1 : (((⟨#[48, 49, 50, 51, 52, 53, 54, 55, 56, 57, 97, 98, 99, 100, 101, 102]⟩ : ByteArray)[11]'(by decide)).toNat) = 98 := by decide
      have t2 : (((⟨#[48, 49, 50, 51, 52, 53, 54, 55, 56, 57, 65, 66, 67, 68, 69, 70]⟩ : ByteArray)[11]'(by decide)).toNat) = 66 := by decide
      by_cases h1 : n = 98
      · subst h1
        go_wp2_with fail
        go_ret
        exact ⟨rfl, rfl⟩
      by_cases h2 : n = 66
      · subst h2
        go_wp2_with fail
        go_ret
        exact ⟨rfl, rfl⟩
      have e1 : (n == 98) = false := beq_eq_false_iff_ne.mpr h1
      have e2 : (n == 66) = false := beq_eq_false_iff_ne.mpr h2
      have HI2 : Hid (hexV n < (12 : Nat) → hexV n = -1) := Lib.hid (fun h => by have := HI.out; unfold hexV at this h ⊢; (repeat' split at this) <;> (repeat' split at h) <;> (repeat' split) <;> omega)
      clear h1 h2 HI
      go_wp2_with fail
      go_round
      case rel => exact ⟨12, by omega, rfl, HI2⟩
      case measure => simp [intOf]
    · have t1 : (((⟨#[48, 49, 50, 51, 52, 53, 54, 55, 56, 57, 97, 98, 99, 100, 101, 102]⟩ : ByteArray)[12]'(by decide)).toNat) = 99 := by decide
      have t2 : (((⟨#[48, 49, 50, 51, 52, 53, 54, 55, 56, 57, 65, 66, 67, 68, 69, 70]⟩ : ByteArray)[12]'(by decide)).toNat) = 67 := by decide
      by_cases h1 : n = 99
      · subst h1
        go_wp2_with fail
        go_ret
        exact ⟨rfl, rfl⟩
      by_cases h2 : n = 67
      · subst h2
        go_wp2_with fail
        go_ret
        exact ⟨rfl, rfl⟩
      have e1 : (n == 99) = false := beq_eq_false_iff_ne.mpr h1
      have e2 : (n == 67) = false := beq_eq_false_iff_ne.mpr h2
      have HI2 : Hid (hexV n < (13 : Nat) → hexV n = -1) := Lib.hid (fun h => by have := HI.out; unfold hexV at this h ⊢; (repeat' split at this) <;> (repeat' split at h) <;> (repeat' split) <;> omega)
      clear h1 h2 HI
      go_wp2_with fail
      go_round
      case rel => exact ⟨13, by omega, rfl, HI2⟩
      case measure => simp [intOf]
    · have t1 : (((⟨#[48, 49, 50, 51, 52, 53, 54, 55, 56, 57, 97, 98, 99, 100, 101, 102]⟩ : ByteArray)[13]'(by decide)).toNat) = 100 := by decide
      have t2 : (((⟨#[48, 49, 50, 51, 52, 53, 54, 55, 56, 57, 65, 66, 67, 68, 69, 70]⟩ : ByteArray)[13]'(by decide)).toNat) = 68 := by decide
      by_cases h1 : n = 100
      · subst h1
        go_wp2_with fail
        go_ret
        exact ⟨rfl, rfl⟩
      by_cases h2 : n = 68
      · subst h2
        go_wp2_with fail
        go_ret
        exact ⟨rfl, rfl⟩
      have e1 : (n == 100) = false := beq_eq_false_iff_ne.mpr h1
      have e2 : (n == 68) = false := beq_eq_false_iff_ne.mpr h2
      have HI2 : Hid (hexV n < (14 : Nat) → hexV n = -1) := Lib.hid (fun h => by have := HI.out; unfold hexV at this h ⊢; (repeat' split at this) <;> (repeat' split at h) <;> (repeat' split) <;> omega)
      clear h1 h2 HI
      go_wp2_with fail
      go_round
      case rel => exact ⟨14, by omega, rfl, HI2⟩
      case measure => simp [intOf]
    · have t1 : (((⟨#[48, 49, 50, 51, 52, 53, 54, 55, 56, 57, 97, 98, 99, 100, 101, 102]⟩ : ByteArray)[14]'(by decide)).toNat) = 101 := by decide
      have t2 : (((⟨#[48, 49, 50, 51, 52, 53, 54, 55, 56, 57, 65, 66, 67, 68, 69, 70]⟩ : ByteArray)[14]'(by decide)).toNat) = 69 := by decide
      by_cases h1 : n = 101
      · subst h1
        go_wp2_with fail
        go_ret
        exact ⟨rfl, rfl⟩
      by_cases h2 : n = 69
      · subst h2
        go_wp2_with fail
        go_ret
        exact ⟨rfl, rfl⟩
      have e1 : (n == 101) = false := beq_eq_false_iff_ne.mpr h1
      have e2 : (n == 69) = false := beq_eq_false_iff_ne.mpr h2
      have HI2 : Hid (hexV n < (15 : Nat) → hexV n = -1) := Lib.hid (fun h => by have := HI.out; unfold hexV at this h ⊢; (repeat' split at this) <;> (repeat' split at h) <;> (repeat' split) <;> omega)
      clear h1 h2 HI
      go_wp2_with fail
      go_round
      case rel => exact ⟨15, by omega, rfl, HI2⟩
      case measure => simp [intOf]
    · have t1 : (((⟨#[48, 49, 50, 51, 52, 53, 54, 55, 56, 57, 97, 98, 99, 100, 101, 102]⟩ : ByteArray)[15]'(by decide)).toNat) = 102 := by decide
      have t2 : (((⟨#[48, 49, 50, 51, 52, 53, 54, 55, 56, 57, 65, 66, 67, 68, 69, 70]⟩ : ByteArray)[15]'(by decide)).toNat) = 70 := by decide
      by_cases h1 : n = 102
      · subst h1
        go_wp2_with fail
        go_ret
        exact ⟨rfl, rfl⟩
      by_cases h2 : n = 70
      · subst h2
        go_wp2_with fail
        go_ret
        exact ⟨rfl, rfl⟩
      have e1 : (n == 102) = false := beq_eq_false_iff_ne.mpr h1
      have e2 : (n == 70) = false := beq_eq_false_iff_ne.mpr h2
      have HI2 : Hid (hexV n < (16 : Nat) → hexV n = -1) := Lib.hid (fun h => by have := HI.out; unfold hexV at this h ⊢; (repeat' split at this) <;> (repeat' split at h) <;> (repeat' split) <;> omega)
      clear h1 h2 HI
      go_wp2_with fail
      go_round
      case rel => exact ⟨16, by omega, rfl, HI2⟩
      case measure => simp [intOf]
    · have HE : Hid (hexV n = -1) := Lib.hid (HI.out (by unfold hexV; (repeat' split) <;> omega))
      clear HI
      go_wp2_with fail
      go_ret
      exact ⟨ret_int HE.out.symm, rfl⟩
end Go.Proofs.YtbchkhjkajagfaaDoor
set_option linter.unusedVariables false
namespace Go.Proofs.YtbchkhjkajagfaaDoor
open Go Go.RowKit
set_option maxRecDepth 100000
theorem infoByte : (Tryd.prog.info? 5).map (fun i => (i.zero, i.size, i.bytes)) = some (some (.int .u8 0), 1, 1) := by kernel_rfl
theorem sizeBuilder : (Tryd.prog.info? 111).map (·.size) = some 2 := by kernel_rfl
theorem liesBuilder : liesAt Tryd.prog Tryd.prog.depth 111 (2 / Tryd.prog.cellsOf 111) 0 111 1 = true := by kernel_rfl
set_option maxHeartbeats 1000000 in
theorem copyCheck_used (b : Nat) (w : World) (h0 : w.cell? ⟨b, 0, none⟩ = some (.pointer (some ⟨b, 0, none⟩))) :
    Calls Tryd.prog 83 #[.pointer (some ⟨b, 0, none⟩)] w fun e w' => e = .returned (.tuple #[]) ∧ w' = w := by
  obtain ⟨j, hj, _⟩ := Option.map_eq_some_iff.1 sizeBuilder
  go_enter Tryd.func83, Tryd.ntmps83
  go_wp2
  rw [Lib.run_neq_ptr_same w _ Tryd.underlying109 hj]
  go_wp2
  go_end0
  exact ⟨rfl, rfl⟩
set_option maxHeartbeats 1000000 in
theorem copyCheck_fresh (b : Nat) (w : World) (h0 : w.cell? ⟨b, 0, none⟩ = some (.pointer none)) (hsh : w.shape? b = some (111, 2)) (hfz : w.frozen? ⟨b, 0, none⟩ = false) :
    Calls Tryd.prog 83 #[.pointer (some ⟨b, 0, none⟩)] w fun e w' => e = .returned (.tuple #[]) ∧ w' = w.setCell ⟨b, 0, none⟩ (.pointer (some ⟨b, 0, none⟩)) := by
  obtain ⟨j, hj, hjs⟩ := Option.map_eq_some_iff.1 sizeBuilder
  go_enter Tryd.func83, Tryd.ntmps83
  go_wp2
  rw [Lib.run_to_unsafe w ⟨b, 0, none⟩ Tryd.underlying109 Tryd.underlying151 hj (by rw [hjs]; decide) hsh (Nat.zero_lt_succ 1)]
  simp only [Result.andThen]
  rw [Oper.upon_value]
  go_wp2
  rw [run_callFunc_extern Tryd.func92 (by kernel_rfl) (by kernel_rfl) (by kernel_rfl) (e := Extern.AbiNoEscape.same) (by kernel_rfl)]
  rw [Lib.run_noEscape]
  simp only [Result.andThen]
  rw [Oper.upon_value]
  go_wp2
  rw [Lib.run_from_unsafe w ⟨b, 0, none⟩ Tryd.underlying151 Tryd.underlying109 hj hsh liesBuilder]
  simp only [Result.andThen]
  rw [Oper.upon_value]
  go_wp2
  go_end0
  exact ⟨rfl, rfl⟩
def BuilderW (B b : Nat) (bs : List Value) (w w' : World) : Prop := Lib.BuilderAtF 111 5 B b (.pointer (some ⟨b, 0, none⟩)) bs w' ∧ Below B w w' ∧ Lib.OthersKept 5 (some b) w w'
theorem copyCheck_any (B b : Nat) (bs : List Value) (w : World) (h : Lib.IsBuilderF 111 5 B b bs w) :
    Calls Tryd.prog 83 #[.pointer (some ⟨b, 0, none⟩)] w fun e w' => e = .returned (.tuple #[]) ∧ BuilderW B b bs w w' := by
  rcases h with h | h
  · refine (copyCheck_fresh b w h.cell0 h.shape h.frozen0).mono ?_
    rintro e w' ⟨rfl, rfl⟩
    exact ⟨rfl, h.used _, (Below.refl B w).setCell (p := ⟨b, 0, none⟩) h.1 _, (Lib.OthersKept.refl _ _ w).setCell ⟨b, 0, none⟩ rfl _⟩
  · refine (copyCheck_used b w h.cell0).mono ?_
    rintro e w' ⟨rfl, rfl⟩
    exact ⟨rfl, h, Below.refl B _, Lib.OthersKept.refl _ _ _⟩
set_option maxHeartbeats 2000000 in
theorem writeByte_any (B b : Nat) (bs : List Value) (c : Int) (w : World) (h : Lib.IsBuilderF 111 5 B b bs w) (hlen : bs.length + 1 ≤ 140737488355328) (hBw : B ≤ w.heap.size) :
    Calls Tryd.prog 55 #[.pointer (some ⟨b, 0, none⟩), .int .u8 c] w fun e w' => e = .returned .nilIface ∧ BuilderW B b (bs ++ [.int .u8 c]) w w' := by
  obtain ⟨i0, hi, hz0, hz1, hz2⟩ := info_parts infoByte
  go_enter Tryd.func55, Tryd.ntmps55
  go_wp2_with (go_at_call 83; refine (copyCheck_any B b bs _ h).mono ?_)
  rintro e w1 ⟨rfl, h1, hb1, hk1⟩
  obtain ⟨hB, v, hbk, hown, hne⟩ := h1
  have c0 : w1.cell? ⟨b, 0, none⟩ = some (.pointer (some ⟨b, 0, none⟩)) := by rw [Lib.cell_of_heap hbk]; rfl
  have c1 : w1.cell? ⟨b, 1, none⟩ = some v := by rw [Lib.cell_of_heap hbk]; rfl
  go_wp2_with (at_builtin; refine wpList_append_ownF _ rfl _ _ 43 rfl B 5 i0 (.int .u8 0) 1 1 Tryd.underlying43 hi hz0 hz1 hz2 rfl (by decide) _ _ _ rfl (hown.alloc _) ⟨w1.heap.size, 0, none⟩ 1 1 [.int .u8 c] rfl rfl ?c1 ?c2 ?c3 ?c4 ?c5 ?_)
  case c1 =>
    intro j u hj
    match j, hj with
    | 0, hj => simp at hj; subst hj; simp [Addr.add]
  case c2 => intro u hu; simp at hu; subst hu; rfl
  case c3 => unfold maxLen; omega
  case c4 => omega
  case c5 => have := hb1.size; simp; omega
  intro v' w2 hown' hgrow _
  have hlt : b < w1.heap.size := by
    rcases Nat.lt_or_ge b w1.heap.size with h' | h'
    · exact h'
    · simp [Array.getElem?_eq_none h'] at hbk
  have hb2 : w2.heap[b]? = some (.cells #[.pointer (some ⟨b, 0, none⟩), v] 111 (0, 0)) := by
    rw [hgrow.block b (by simp; omega) (fun e => hne e.symm), Lib.alloc_old w1 _ b hlt]
    exact hbk
  have d0 : w2.cell? ⟨b, 0, none⟩ = some (.pointer (some ⟨b, 0, none⟩)) := by rw [Lib.cell_of_heap hb2]; rfl
  have d1 : w2.cell? ⟨b, 1, none⟩ = some v := by rw [Lib.cell_of_heap hb2]; rfl
  have f1 : w2.frozen? ⟨b, 1, none⟩ = false := Lib.frozen_of_heap hb2 1
  obtain ⟨g, cap, rfl⟩ : ∃ g cap, v' = .slice (some ⟨g, 0, none⟩) (bs.length + 1) cap := by
    rcases hown'.2 with ⟨_, h0⟩ | ⟨g, cap, cur, fz, hv, _⟩
    · omega
    · exact ⟨g, cap, hv⟩
  go_wp2
  go_ret
  refine ⟨rfl, ?_, ?_, ((hk1.alloc _).grown hgrow (Lib.ownsRowF_kind (hown.alloc _))).setCell ⟨b, 1, none⟩ rfl _⟩
  · exact Lib.BuilderAtF.put (T := 111) (e := 5) hB hb2 (bs' := bs ++ [.int .u8 c]) (by simpa using hown') (by decide)
  · exact ((hb1.alloc (by have := hb1.size; omega) _).grown hgrow (by have := hb1.size; simp; omega) (fun k hk => (hown.lt k hk).1)).setCell (p := ⟨b, 1, none⟩) hB _
set_option maxHeartbeats 2000000 in
theorem writeString_any (B b : Nat) (bs : List Value) (s : ByteArray) (w : World) (h : Lib.IsBuilderF 111 5 B b bs w) (hlen : bs.length + s.size ≤ 140737488355328) (hBw : B ≤ w.heap.size) :
    Calls Tryd.prog 53 #[.pointer (some ⟨b, 0, none⟩), .string s] w fun e w' => e = .returned (.tuple #[.int .i64 s.size, .nilIface]) ∧ BuilderW B b (bs ++ Lib.strCells s) w w' := by
  obtain ⟨i0, hi, hz0, hz1, hz2⟩ := info_parts infoByte
  go_enter Tryd.func53, Tryd.ntmps53
  go_wp2_with (go_at_call 83; refine (copyCheck_any B b bs _ h).mono ?_)
  rintro e w1 ⟨rfl, h1, hb1, hk1⟩
  obtain ⟨hB, v, hbk, hown, hne⟩ := h1
  have c0 : w1.cell? ⟨b, 0, none⟩ = some (.pointer (some ⟨b, 0, none⟩)) := by rw [Lib.cell_of_heap hbk]; rfl
  have c1 : w1.cell? ⟨b, 1, none⟩ = some v := by rw [Lib.cell_of_heap hbk]; rfl
  go_wp2_with (at_builtin; refine Lib.wpList_append_own_stringF _ rfl _ _ 43 9 rfl B 5 i0 Tryd.underlying43 Tryd.underlying9 hi hz0 hz1 hz2 _ _ _ rfl hown s rfl ?c3 ?c4 ?c5 ?_)
  case c3 => unfold maxLen; omega
  case c4 => omega
  case c5 => have := hb1.size; omega
  intro v' w2 hown' hgrow _
  have hlt : b < w1.heap.size := by
    rcases Nat.lt_or_ge b w1.heap.size with h' | h'
    · exact h'
    · simp [Array.getElem?_eq_none h'] at hbk
  have hb2 : w2.heap[b]? = some (.cells #[.pointer (some ⟨b, 0, none⟩), v] 111 (0, 0)) := by
    rw [hgrow.block b hlt (fun e => hne e.symm)]
    exact hbk
  have d0 : w2.cell? ⟨b, 0, none⟩ = some (.pointer (some ⟨b, 0, none⟩)) := by rw [Lib.cell_of_heap hb2]; rfl
  have d1 : w2.cell? ⟨b, 1, none⟩ = some v := by rw [Lib.cell_of_heap hb2]; rfl
  have f1 : w2.frozen? ⟨b, 1, none⟩ = false := Lib.frozen_of_heap hb2 1
  obtain ⟨ao, n', cap, rfl⟩ : ∃ ao n' cap, v' = .slice ao n' cap := by
    rcases hown'.2 with ⟨hv, _⟩ | ⟨g, cap, cur, fz, hv, _⟩
    · exact ⟨_, _, _, hv⟩
    · exact ⟨_, _, _, hv⟩
  go_wp2
  go_ret2
  refine ⟨rfl, ?_, ?_, (hk1.grown hgrow (Lib.ownsRowF_kind hown)).setCell ⟨b, 1, none⟩ rfl _⟩
  · exact Lib.BuilderAtF.put (T := 111) (e := 5) hB hb2 (bs' := bs ++ Lib.strCells s) (by simpa [Lib.strCells_length] using hown') (by decide)
  · exact (hb1.grown hgrow (by have := hb1.size; omega) (fun k hk => (hown.lt k hk).1)).setCell (p := ⟨b, 1, none⟩) hB _
/-- what AppendRune leaves: the row with the sign's bytes behind it -/
def RuneRes (B n : Nat) (v : Value) (xs : List Value) (r : Int) (w : World) (e : Ending) (w' : World) : Prop :=
  ∃ v', e = .returned v' ∧ w'.ownsRowF B 5 1 v' (n + (Lib.runeCells r).length) (xs ++ Lib.runeCells r) ∧ ∃ o, (w.alloc o).grownBy w' v.ownBlock
set_option maxHeartbeats 4000000 in
theorem nonAscii_any (B : Nat) (v : Value) (n : Nat) (xs : List Value) (r : Int) (hr : SignP r) (h128 : 128 ≤ r) (w : World) (hown : w.ownsRowF B 5 1 v n xs) (hlen : n + 4 ≤ 140737488355328) (hBw : B ≤ w.heap.size) :
    Calls Tryd.prog 96 #[v, .int .i32 r] w (RuneRes B n v xs r w) := by
  obtain ⟨i0, hi, hz0, hz1, hz2⟩ := info_parts infoByte
  have hc : (r ≤ 2047) ∨ (2048 ≤ r ∧ r < 55296) ∨ (57343 < r ∧ r ≤ 65535) ∨ (65536 ≤ r ∧ r ≤ 1114111) := by unfold SignP at hr; omega
  clear hr
  rcases hc with h1 | ⟨h0, h1⟩ | ⟨h0, h1⟩ | ⟨h0, h1⟩
  · have e : Lib.runeCells r = [.int .u8 (192 + r / 64), .int .u8 (128 + r % 64)] := by unfold Lib.runeCells; rw [Lib.encodeRuneZ_two h128 h1]; rfl
    have E := Lib.hid e
    clear e
    go_enter Tryd.func96, Tryd.ntmps96
    go_wp2_with (at_builtin; refine wpList_append_ownF _ rfl _ _ 43 rfl B 5 i0 (.int .u8 0) 1 1 Tryd.underlying43 hi hz0 hz1 hz2 rfl (by decide) _ _ _ rfl (hown.alloc _) ⟨w.heap.size, 0, none⟩ 2 2 [.int .u8 (192 + r / 64), .int .u8 (128 + r % 64)] rfl rfl ?c1 ?c2 ?c3 ?c4 ?c5 ?_)
    case c1 =>
      intro j u hj
      match j, hj with
      | 0, hj => simp at hj; subst hj; simp [Addr.add]
      | 1, hj => simp at hj; subst hj; simp [Addr.add]
      | (j + 2), hj => simp at hj
    case c2 => intro u hu; simp at hu; rcases hu with rfl | rfl <;> rfl
    case c3 => unfold maxLen; omega
    case c4 => omega
    case c5 => simp; omega
    intro v' w2 hown' hgrow _
    go_wp2
    go_ret
    exact ⟨_, rfl, by rw [E.out]; exact hown', _, hgrow⟩
  · have e : Lib.runeCells r = [.int .u8 (224 + r / 4096), .int .u8 (128 + r / 64 % 64), .int .u8 (128 + r % 64)] := by unfold Lib.runeCells; rw [Lib.encodeRuneZ_three (.inl ⟨h0, h1⟩)]; rfl
    have E := Lib.hid e
    clear e
    go_enter Tryd.func96, Tryd.ntmps96
    go_wp2_with (at_builtin; refine wpList_append_ownF _ rfl _ _ 43 rfl B 5 i0 (.int .u8 0) 1 1 Tryd.underlying43 hi hz0 hz1 hz2 rfl (by decide) _ _ _ rfl (hown.alloc _) ⟨w.heap.size, 0, none⟩ 3 3 [.int .u8 (224 + r / 4096), .int .u8 (128 + r / 64 % 64), .int .u8 (128 + r % 64)] rfl rfl ?c1 ?c2 ?c3 ?c4 ?c5 ?_)
    case c1 =>
      intro j u hj
      match j, hj with
      | 0, hj => simp at hj; subst hj; simp [Addr.add]
      | 1, hj => simp at hj; subst hj; simp [Addr.add]
      | 2, hj => simp at hj; subst hj; simp [Addr.add]
      | (j + 3), hj => simp at hj
    case c2 => intro u hu; simp at hu; rcases hu with rfl | rfl | rfl <;> rfl
    case c3 => unfold maxLen; omega
    case c4 => omega
    case c5 => simp; omega
    intro v' w2 hown' hgrow _
    go_wp2
    go_ret
    exact ⟨_, rfl, by rw [E.out]; exact hown', _, hgrow⟩
  · have e : Lib.runeCells r = [.int .u8 (224 + r / 4096), .int .u8 (128 + r / 64 % 64), .int .u8 (128 + r % 64)] := by unfold Lib.runeCells; rw [Lib.encodeRuneZ_three (.inr ⟨h0, h1⟩)]; rfl
    have E := Lib.hid e
    clear e
    go_enter Tryd.func96, Tryd.ntmps96
    go_wp2_with (at_builtin; refine wpList_append_ownF _ rfl _ _ 43 rfl B 5 i0 (.int .u8 0) 1 1 Tryd.underlying43 hi hz0 hz1 hz2 rfl (by decide) _ _ _ rfl (hown.alloc _) ⟨w.heap.size, 0, none⟩ 3 3 [.int .u8 (224 + r / 4096), .int .u8 (128 + r / 64 % 64), .int .u8 (128 + r % 64)] rfl rfl ?c1 ?c2 ?c3 ?c4 ?c5 ?_)
    case c1 =>
      intro j u hj
      match j, hj with
      | 0, hj => simp at hj; subst hj; simp [Addr.add]
      | 1, hj => simp at hj; subst hj; simp [Addr.add]
      | 2, hj => simp at hj; subst hj; simp [Addr.add]
      | (j + 3), hj => simp at hj
    case c2 => intro u hu; simp at hu; rcases hu with rfl | rfl | rfl <;> rfl
    case c3 => unfold maxLen; omega
    case c4 => omega
    case c5 => simp; omega
    intro v' w2 hown' hgrow _
    go_wp2
    go_ret
    exact ⟨_, rfl, by rw [E.out]; exact hown', _, hgrow⟩
  · have e : Lib.runeCells r = [.int .u8 (240 + r / 262144), .int .u8 (128 + r / 4096 % 64), .int .u8 (128 + r / 64 % 64), .int .u8 (128 + r % 64)] := by unfold Lib.runeCells; rw [Lib.encodeRuneZ_four h0 h1]; rfl
    have E := Lib.hid e
    clear e
    go_enter Tryd.func96, Tryd.ntmps96
    go_wp2_with (at_builtin; refine wpList_append_ownF _ rfl _ _ 43 rfl B 5 i0 (.int .u8 0) 1 1 Tryd.underlying43 hi hz0 hz1 hz2 rfl (by decide) _ _ _ rfl (hown.alloc _) ⟨w.heap.size, 0, none⟩ 4 4 [.int .u8 (240 + r / 262144), .int .u8 (128 + r / 4096 % 64), .int .u8 (128 + r / 64 % 64), .int .u8 (128 + r % 64)] rfl rfl ?c1 ?c2 ?c3 ?c4 ?c5 ?_)
    case c1 =>
      intro j u hj
      match j, hj with
      | 0, hj => simp at hj; subst hj; simp [Addr.add]
      | 1, hj => simp at hj; subst hj; simp [Addr.add]
      | 2, hj => simp at hj; subst hj; simp [Addr.add]
      | 3, hj => simp at hj; subst hj; simp [Addr.add]
      | (j + 4), hj => simp at hj
    case c2 => intro u hu; simp at hu; rcases hu with rfl | rfl | rfl | rfl <;> rfl
    case c3 => unfold maxLen; omega
    case c4 => omega
    case c5 => simp; omega
    intro v' w2 hown' hgrow _
    go_wp2
    go_ret
    exact ⟨_, rfl, by rw [E.out]; exact hown', _, hgrow⟩
set_option maxHeartbeats 4000000 in
theorem appendRune_any (B : Nat) (v : Value) (n : Nat) (xs : List Value) (r : Int) (hr : SignP r) (w : World) (hown : w.ownsRowF B 5 1 v n xs) (hlen : n + 4 ≤ 140737488355328) (hBw : B ≤ w.heap.size) :
    Calls Tryd.prog 90 #[v, .int .i32 r] w (RuneRes B n v xs r w) := by
  obtain ⟨i0, hi, hz0, hz1, hz2⟩ := info_parts infoByte
  by_cases h1 : r ≤ 127
  · have h0 : 0 ≤ r := by unfold SignP at hr; omega
    have e : Lib.runeCells r = [.int .u8 r] := by unfold Lib.runeCells; rw [Lib.encodeRuneZ_one h0 h1]; rfl
    have E := Lib.hid e
    clear e hr
    go_enter Tryd.func90, Tryd.ntmps90
    go_wp2_with (at_builtin; refine wpList_append_ownF _ rfl _ _ 43 rfl B 5 i0 (.int .u8 0) 1 1 Tryd.underlying43 hi hz0 hz1 hz2 rfl (by decide) _ _ _ rfl (hown.alloc _) ⟨w.heap.size, 0, none⟩ 1 1 [.int .u8 r] rfl rfl ?c1 ?c2 ?c3 ?c4 ?c5 ?_)
    case c1 =>
      intro j u hj
      match j, hj with
      | 0, hj => simp at hj; subst hj; simp [Addr.add]
      | (j + 1), hj => simp at hj
    case c2 => intro u hu; simp at hu; subst hu; rfl
    case c3 => unfold maxLen; omega
    case c4 => omega
    case c5 => simp; omega
    intro v' w2 hown' hgrow _
    go_wp2
    go_ret
    exact ⟨_, rfl, by rw [E.out]; exact hown', _, hgrow⟩
  · have h128 : 128 ≤ r := by omega
    have hr1 : r ≤ 1114111 := by unfold SignP at hr; omega
    have HR := Lib.hid hr
    clear hr
    go_enter Tryd.func90, Tryd.ntmps90
    go_wp2_with (go_at_call 96; refine (nonAscii_any B v n xs r HR.out h128 _ hown hlen hBw).mono ?_)
    rintro e w1 ⟨v', rfl, h1, o, h2⟩
    go_wp2
    go_ret
    exact ⟨_, rfl, h1, o, h2⟩
set_option maxHeartbeats 4000000 in
theorem writeRune_any (B b : Nat) (bs : List Value) (r : Int) (hr : SignP r) (w : World) (h : Lib.IsBuilderF 111 5 B b bs w) (hlen : bs.length + 4 ≤ 140737488355328) (hBw : B ≤ w.heap.size) :
    Calls Tryd.prog 81 #[.pointer (some ⟨b, 0, none⟩), .int .i32 r] w fun e w' => e = .returned (.tuple #[.int .i64 (Lib.runeCells r).length, .nilIface]) ∧ BuilderW B b (bs ++ Lib.runeCells r) w w' := by
  have hk4 := Lib.runeCells_le r
  have HR := Lib.hid hr
  clear hr
  go_enter Tryd.func81, Tryd.ntmps81
  go_wp2_with (go_at_call 83; refine (copyCheck_any B b bs _ h).mono ?_)
  rintro e w1 ⟨rfl, h1, hb1, hk1⟩
  obtain ⟨hB, v, hbk, hown, hne⟩ := h1
  obtain ⟨ao, cap, rfl⟩ : ∃ ao cap, v = .slice ao bs.length cap := by
    rcases hown.2 with ⟨hv, h0⟩ | ⟨g, cap, cur, fz, hv, _⟩
    · exact ⟨none, 0, by rw [hv, h0]⟩
    · exact ⟨_, _, hv⟩
  have c0 : w1.cell? ⟨b, 0, none⟩ = some (.pointer (some ⟨b, 0, none⟩)) := by rw [Lib.cell_of_heap hbk]; rfl
  have c1 : w1.cell? ⟨b, 1, none⟩ = some (.slice ao bs.length cap) := by rw [Lib.cell_of_heap hbk]; rfl
  go_wp2_with (go_at_call 90; refine (appendRune_any B _ bs.length bs r HR.out _ hown hlen (by have := hb1.size; omega)).mono ?_)
  rintro e w2 ⟨v', rfl, hown', o, hgrow⟩
  have hlt : b < w1.heap.size := by
    rcases Nat.lt_or_ge b w1.heap.size with h' | h'
    · exact h'
    · simp [Array.getElem?_eq_none h'] at hbk
  have hb2 : w2.heap[b]? = some (.cells #[.pointer (some ⟨b, 0, none⟩), .slice ao bs.length cap] 111 (0, 0)) := by
    rw [hgrow.block b (by simp; omega) (fun e => hne e.symm), Lib.alloc_old w1 _ b hlt]
    exact hbk
  have d0 : w2.cell? ⟨b, 0, none⟩ = some (.pointer (some ⟨b, 0, none⟩)) := by rw [Lib.cell_of_heap hb2]; rfl
  have d1 : w2.cell? ⟨b, 1, none⟩ = some (.slice ao bs.length cap) := by rw [Lib.cell_of_heap hb2]; rfl
  have f1 : w2.frozen? ⟨b, 1, none⟩ = false := Lib.frozen_of_heap hb2 1
  obtain ⟨g, cap', rfl⟩ : ∃ g cap', v' = .slice (some ⟨g, 0, none⟩) (bs.length + (Lib.runeCells r).length) cap' := by
    rcases hown'.2 with ⟨_, h0⟩ | ⟨g, cap', cur, fz, hv, _⟩
    · omega
    · exact ⟨g, cap', hv⟩
  go_wp2
  go_ret2
  refine ⟨?_, ?_, ?_, ((hk1.alloc _).grown hgrow (Lib.ownsRowF_kind (hown.alloc _))).setCell ⟨b, 1, none⟩ rfl _⟩
  · have e : ((bs.length : Int) + ((Lib.runeCells r).length : Int) - (bs.length : Int)) = ((Lib.runeCells r).length : Int) := by omega
    simp [e]
  · exact Lib.BuilderAtF.put (T := 111) (e := 5) hB hb2 (bs' := bs ++ Lib.runeCells r) (by simpa using hown') (by decide)
  · exact ((hb1.alloc (by have := hb1.size; omega) _).grown hgrow (by have := hb1.size; simp; omega) (fun k hk => (hown.lt k hk).1)).setCell (p := ⟨b, 1, none⟩) hB _
end Go.Proofs.YtbchkhjkajagfaaDoor
namespace Go.Proofs.YtbchkhjkajagfaaDoor
open Go Go.RowKit
/-- the letter behind a backslash that stands for a sign; 0: none does -/
def letterV (n : Int) : Int := if n = 9 then 116 else if n = 10 then 110 else if n = 13 then 114 else if n = 8 then 98 else if n = 12 then 102 else if n = 34 then 34 else if n = 92 then 92 else 0
def hexd (d : Int) : UInt8 := if d < 10 then (48 + d).toNat.toUInt8 else (55 + d).toNat.toUInt8
/-- a sign, as it stands in quotation marks -/
def qsign (n : Int) : List UInt8 := if letterV n ≠ 0 then [92, (letterV n).toNat.toUInt8] else if classV n = 4 then [92, 117, 48, 48, hexd (n / 16), hexd (n % 16)] else enc n
def quoteIn (l : List Int) : List UInt8 := 34 :: l.flatMap qsign
def quoteB (l : List Int) : List UInt8 := quoteIn l ++ [34]
theorem qsign_len (n : Int) : 1 ≤ (qsign n).length ∧ (qsign n).length ≤ 6 := by
  unfold qsign
  have := enc_pos n
  split
  · simp
  · split
    · simp
    · omega
theorem quoteIn_snoc (l : List Int) (n : Int) : quoteIn (l ++ [n]) = quoteIn l ++ qsign n := by unfold quoteIn; rw [List.flatMap_append]; simp
theorem quoteIn_len (l : List Int) : (quoteIn l).length ≤ 6 * l.length + 1 := by
  induction l with
  | nil => simp [quoteIn]
  | cons n l ih =>
    have := (qsign_len n).2
    simp only [quoteIn, List.flatMap_cons, List.length_cons, List.length_append] at ih ⊢
    omega
/-- the table, as it lies in memory: a letter, its sign, and so on -/
def escT : List Int := [116, 9, 110, 10, 114, 13, 98, 8, 102, 12, 34, 34, 92, 92, 39, 39]
def Esc (w : World) : Prop := ∀ j, j < 16 → w.cell? ⟨0, j, none⟩ = some (.int .i32 (escT.getD j 0))
theorem Esc.below {w w' : World} (h : Esc w) {B : Nat} (hB : 0 < B) (hb : Below B w w') : Esc w' := fun j hj => (hb.cell (p := ⟨0, j, none⟩) hB).trans (h j hj)
theorem Esc.lt {w : World} (h : Esc w) : 0 < w.heap.size := block_lt_of_cell (h 0 (by omega))
/-- what the loops keep: the builder with its bytes, the iterator at its place, what lay before -/
def QW (s : ByteArray) (B I : Nat) (w : World) (bs : List UInt8) (q : Nat) (wr : World) : Prop :=
  Lib.IsBuilderF 111 5 B B (Lib.byteCells bs) wr ∧ wr.heap[I]? = some (.stringIter s q) ∧ Below B w wr ∧ B < I
theorem QW.alloc {s : ByteArray} {B I : Nat} {w : World} {bs : List UInt8} {q : Nat} {wr : World} (h : QW s B I w bs q wr) (hB : B ≤ w.heap.size) (o : Obj) : QW s B I w bs q (wr.alloc o) := by
  obtain ⟨h1, h2, h3, h4⟩ := h
  exact ⟨h1.alloc o, (Below.heap_alloc wr o I (Array.getElem?_eq_some_iff.1 h2).1).trans h2, h3.alloc (Nat.le_trans hB h3.size) o, h4⟩
theorem QW.step {s : ByteArray} {B I : Nat} {w : World} {bs bs' : List UInt8} {q : Nat} {wr w' : World} (h : QW s B I w bs q wr) (hw : BuilderW B B (Lib.byteCells bs') wr w') : QW s B I w bs' q w' := by
  obtain ⟨h1, h2, h3, h4⟩ := h
  obtain ⟨g1, g2, g3⟩ := hw
  exact ⟨.inr g1, g3.iter h2 (by omega), h3.trans g2, h4⟩
theorem QW.next {s : ByteArray} {B I : Nat} {w : World} {bs : List UInt8} {q : Nat} {wr : World} (h : QW s B I w bs q wr) (q' : Nat) : QW s B I w bs q' (wr.iterAt I s q') := by
  obtain ⟨h1, h2, h3, h4⟩ := h
  exact ⟨h1.iterAt h2 q', Lib.iterAt_heap wr I s q q' h2, Lib.below_iterAt h3 (by omega) s q', h4⟩
theorem cells_one (bs : List UInt8) (b : UInt8) (c : Int) (h : (b.toNat : Int) = c) : Lib.byteCells bs ++ [.int .u8 c] = Lib.byteCells (bs ++ [b]) := by
  rw [Lib.byteCells_append]; simp [Lib.byteCells, h]
theorem cells_rune (bs : List UInt8) (n : Int) : Lib.byteCells bs ++ Lib.runeCells n = Lib.byteCells (bs ++ enc n) := by
  rw [Lib.byteCells_append]; unfold enc; rw [Lib.byteCells_encodeRune]
/-- the sign of the table's place -/
def escS (j : Nat) : Int := escT.getD (2 * j + 1) 0
def escL (j : Nat) : Int := escT.getD (2 * j) 0
theorem esc_hit {n : Int} {j : Nat} (hj : j < 7) (h : escS j = n) : letterV n = escL j ∧ SignP (escL j) ∧ enc (escL j) = [(letterV n).toNat.toUInt8] ∧ letterV n ≠ 0 := by
  subst h
  rcases (by omega : j = 0 ∨ j = 1 ∨ j = 2 ∨ j = 3 ∨ j = 4 ∨ j = 5 ∨ j = 6) with rfl | rfl | rfl | rfl | rfl | rfl | rfl
  all_goals decide
theorem esc_miss {n : Int} (h : ∀ j, j < 7 → escS j ≠ n) : letterV n = 0 := by
  have h0 := h 0 (by omega)
  have h1 := h 1 (by omega)
  have h2 := h 2 (by omega)
  have h3 := h 3 (by omega)
  have h4 := h 4 (by omega)
  have h5 := h 5 (by omega)
  have h6 := h 6 (by omega)
  simp only [escS, escT] at h0 h1 h2 h3 h4 h5 h6
  simp at h0 h1 h2 h3 h4 h5 h6
  unfold letterV
  rw [if_neg (by omega), if_neg (by omega), if_neg (by omega), if_neg (by omega), if_neg (by omega), if_neg (by omega), if_neg (by omega)]
theorem upper_at (d : Int) (h0 : 0 ≤ d) (h1 : d < 16) (h : d.toNat < (⟨#[48, 49, 50, 51, 52, 53, 54, 55, 56, 57, 65, 66, 67, 68, 69, 70]⟩ : ByteArray).size) : (((⟨#[48, 49, 50, 51, 52, 53, 54, 55, 56, 57, 65, 66, 67, 68, 69, 70]⟩ : ByteArray)[d.toNat]'h).toNat) = (hexd d).toNat := by
  obtain ⟨m, rfl⟩ := Int.eq_ofNat_of_zero_le h0
  have hm : m < 16 := by omega
  clear h0 h1
  rcases (by omega : m = 0 ∨ m = 1 ∨ m = 2 ∨ m = 3 ∨ m = 4 ∨ m = 5 ∨ m = 6 ∨ m = 7 ∨ m = 8 ∨ m = 9 ∨ m = 10 ∨ m = 11 ∨ m = 12 ∨ m = 13 ∨ m = 14 ∨ m = 15) with rfl | rfl | rfl | rfl | rfl | rfl | rfl | rfl | rfl | rfl | rfl | rfl | rfl | rfl | rfl | rfl
  all_goals rfl
theorem upper_byte (d : Int) (x : UInt8) (h0 : 0 ≤ d) (h1 : d < 16) (hx : x = hexd d) (h : d.toNat < (⟨#[48, 49, 50, 51, 52, 53, 54, 55, 56, 57, 65, 66, 67, 68, 69, 70]⟩ : ByteArray).size) : ((x.toNat : Nat) : Int) = (((⟨#[48, 49, 50, 51, 52, 53, 54, 55, 56, 57, 65, 66, 67, 68, 69, 70]⟩ : ByteArray)[d.toNat]'h).toNat : Int) := by
  rw [hx, upper_at d h0 h1 h]
set_option maxHeartbeats 6400000 in
set_option maxRecDepth 100000 in
theorem quote_any (s : ByteArray) (l : List Int) (w : World) (h : Read s.data.toList l []) (hs : s.size ≤ 1048576) (he : Esc w) :
    Calls Tryd.prog 51 #[.string s] w fun e w' => e = .returned (.string ⟨(quoteB l).toArray⟩) ∧ Below w.heap.size w w' := by
  have HR := Lib.hid h
  have hll : l.length ≤ s.size := read_len h
  have hw0 := he.lt
  have HE := Lib.hid he
  clear h he
  go_enter Tryd.func51, Tryd.ntmps51
  go_wp2_with fail
  go_step3
  go_wp2_with fail
  refine (writeByte_any w.heap.size w.heap.size [] 34 _ (Lib.IsBuilderF.of (Lib.fresh_isBuilder 111 5 w)) (by simp) (by simp)).mono ?_
  rintro e w1 ⟨rfl, hI, hb, hk⟩
  have hs1 : w.heap.size < w1.heap.size := by
    have := hI.2
    obtain ⟨v, hbk, _⟩ := this
    exact (Array.getElem?_eq_some_iff.1 hbk).1
  have HQ0 : Hid (QW s w.heap.size w1.heap.size w (quoteIn (l.take 0)) 0 (w1.iter s 0)) := Lib.hid ⟨.inr (Lib.BuilderAtF.alloc hI _), World.iter_heap w1 s 0, (((Below.refl _ w).alloc (Nat.le_refl _) _).trans hb).alloc (by omega) _, hs1⟩
  clear hI hb hk
  generalize hIb : w1.heap.size = I at *
  go_wp2_with fail
  go_step3
  go_wp2_with fail
  go_loopg [] l.length (fun g wx => ∃ k q : Nat, k + g = l.length ∧ Hid (q = (textB (l.take k)).length) ∧ Hid (QW s w.heap.size I w (quoteIn (l.take k)) q wx))
  case atStart => exact ⟨0, 0, by omega, Lib.hid rfl, HQ0⟩
  case round =>
    obtain ⟨k, q, hk, HQ, HW⟩ := hrel
    clear HQ0
    have hit := HW.out.2.1
    by_cases hlt : k < l.length
    · have hq := (read_here HR.out hlt).2.2
      rw [← HQ.out] at hq
      have hnx : ∀ ty, (Instr.next (.pointer (some ⟨I, 0, none⟩)) true ty).run Tryd.prog wr = _ := fun ty => Lib.run_next_any_at wr I s q ty hit hq
      rw [decode_here HR.out hlt HQ.out] at hnx
      have hn := (read_here HR.out hlt).1
      have hn0 : (((l[k]'hlt).toNat : Nat) : Int) = l[k]'hlt := by unfold SignP at hn; omega
      rw [hn0] at hnx
      have HN : Hid (q + (enc (l[k]'hlt)).length = (textB (l.take (k + 1))).length) := Lib.hid (by rw [read_next HR.out hlt, ← HQ.out])
      have HT : Hid (quoteIn (l.take (k + 1)) = quoteIn (l.take k) ++ qsign (l[k]'hlt)) := Lib.hid (by rw [List.take_succ_eq_append_getElem hlt, quoteIn_snoc])
      have hql : (quoteIn (l.take k)).length ≤ 6 * k + 1 := by have := quoteIn_len (l.take k); rw [List.length_take] at this; omega
      have HX := Lib.hid (HW.out.next (q + (enc (l[k]'hlt)).length))
      have hn1 : 0 ≤ l[k]'hlt ∧ l[k]'hlt ≤ 1114111 := by unfold SignP at hn; omega
      have HS := Lib.hid hn
      clear hn hn0 hit HW HQ hq
      generalize q + (enc (l[k]'hlt)).length = q' at hnx HN HX
      generalize quoteIn (l.take k) = bs at HT hql HX
      obtain ⟨n, hnn⟩ : ∃ n, n = l[k]'hlt := ⟨_, rfl⟩
      rw [← hnn] at hnx HT hn1 HS
      clear hnn
      obtain ⟨W1, hW1⟩ : ∃ W1, W1 = wr.iterAt I s q' := ⟨_, rfl⟩
      rw [← hW1] at hnx HX
      clear hW1
      obtain ⟨m0, m1⟩ := hn1
      go_wp2_with fail
      clear hnx
      have hE : ∀ wy, Below w.heap.size w wy → Esc wy := fun wy hb => HE.out.below hw0 hb
      have HEs := Lib.hid hE
      clear hE
      go_loopg [17] 7 (fun g2 s17 wy => ∃ j : Nat, j + g2 = 7 ∧ s17 = .int .i64 j ∧ Hid (∀ i, i < j → escS i ≠ n) ∧ Hid (QW s w.heap.size I w bs q' wy))
      case atStart => exact ⟨0, by omega, rfl, Lib.hid (fun i hi => by omega), HX⟩
      case round =>
        obtain ⟨j, hj, rfl, HM, HY⟩ := hrel
        clear HX
        by_cases hj7 : j < 7
        · have hes := HEs.out wr HY.out.2.2.1
          have c0 : wr.cell? ⟨0, j * 2, none⟩ = some (.int .i32 (escL j)) := by have := hes (2 * j) (by omega); rw [Nat.mul_comm]; exact this
          have c1 : wr.cell? ⟨0, j * 2 + 1, none⟩ = some (.int .i32 (escS j)) := by have := hes (2 * j + 1) (by omega); rw [Nat.mul_comm]; exact this
          clear hes
          have HY2 := Lib.hid (HY.out.alloc (Nat.le_refl _) (.cells #[.int .i32 (escL j), .int .i32 (escS j)] 140))
          have hB := HY.out.2.2.1.size
          have hIl : I < wr.heap.size := (Array.getElem?_eq_some_iff.1 HY.out.2.1).1
          by_cases hh : escS j = n
          · obtain ⟨e1, e2, e3, e4⟩ := esc_hit hj7 hh
            have HQs : Hid (quoteIn (l.take (k + 1)) = bs ++ [92] ++ enc (escL j)) := Lib.hid (by rw [HT.out]; unfold qsign; rw [if_pos e4, e3, List.append_assoc]; rfl)
            have E2 := Lib.hid e2
            have ht : (escS j == n) = true := by simp [hh]
            clear e1 e2 e3 e4 hh HM
            generalize escS j = sj at c1 ht HY2
            generalize escL j = lj at c0 HY2 HQs E2
            have hblk : (wr.alloc (.cells #[.int .i32 lj, .int .i32 sj] 140)).heap[wr.heap.size]? = some (.cells #[.int .i32 lj, .int .i32 sj] 140 (0, 0)) := heap_alloc_new _ _
            have HBK := Lib.hid hblk
            clear hblk
            go_wp2_with fail
            refine (writeByte_any w.heap.size w.heap.size (Lib.byteCells bs) 92 _ HY2.out.1 (by rw [Lib.byteCells_length]; omega) (by simp; omega)).mono ?_
            rintro e w2 ⟨rfl, hw2⟩
            rw [cells_one bs 92 92 rfl] at hw2
            have HY3 := Lib.hid (HY2.out.step hw2)
            have hk2 := hw2.2.2 _ _ HBK.out (fun e => by injection e with e; omega) (fun c fz e => by injection e with _ h _; exact absurd h (by decide))
            have d0 : w2.cell? ⟨wr.heap.size, 0, none⟩ = some (.int .i32 lj) := by rw [Lib.cell_of_heap hk2]; rfl
            have hB2 := HY3.out.2.2.1.size
            clear hw2 hk2 c0 c1 HBK
            go_wp2_with fail
            refine (writeRune_any w.heap.size w.heap.size (Lib.byteCells (bs ++ [92])) lj E2.out _ HY3.out.1 (by rw [Lib.byteCells_length, List.length_append]; simp; omega) hB2).mono ?_
            rintro e w3 ⟨rfl, hw3⟩
            rw [cells_rune] at hw3
            have HY4 := Lib.hid (HY3.out.step hw3)
            clear hw3
            rw [← HQs.out] at HY4
            go_wp2_with fail
            go_roundg (l.length - (k + 1))
            case measure => omega
            case rel => exact ⟨k + 1, q', by omega, HN, HY4⟩
          · have ht : (escS j == n) = false := beq_eq_false_iff_ne.mpr hh
            have HM2 : Hid (∀ i, i < j + 1 → escS i ≠ n) := Lib.hid (fun i hi => by
              by_cases h2 : i < j
              · exact HM.out i h2
              · obtain rfl : i = j := by omega
                exact hh)
            clear hh HM
            generalize escS j = sj at c1 ht HY2
            generalize escL j = lj at c0 HY2
            go_wp2_with fail
            go_roundg (gk - 1)
            case measure => omega
            case rel => exact ⟨j + 1, by omega, by go_num, HM2, HY2⟩
        · obtain rfl : j = 7 := by omega
          have HL := Lib.hid (esc_miss HM.out)
          clear HM
          have hB := HY.out.2.2.1.size
          by_cases h4 : classV n = 4
          · have HQs : Hid (quoteIn (l.take (k + 1)) = bs ++ [92, 117] ++ [48, 48, hexd (n / 16), hexd (n % 16)]) := Lib.hid (by rw [HT.out]; unfold qsign; rw [if_neg (by rw [HL.out]; simp), if_pos h4, List.append_assoc]; rfl)
            have h160 : n < 160 := by unfold classV at h4; (repeat' split at h4) <;> omega
            have H4 := Lib.hid h4
            clear h4 HL
            go_wp2_with fail
            refine (class_any n _ (by omega) (by omega)).mono ?_
            rintro e w' ⟨rfl, rfl⟩
            rw [H4.out]
            go_wp2_with fail
            refine (writeString_any w.heap.size w.heap.size (Lib.byteCells bs) ⟨#[92, 117]⟩ _ HY.out.1 (by rw [Lib.byteCells_length]; show bs.length + 2 ≤ _; omega) hB).mono ?_
            rintro e w2 ⟨rfl, hw2⟩
            rw [show Lib.byteCells bs ++ Lib.strCells ⟨#[92, 117]⟩ = Lib.byteCells (bs ++ [92, 117]) from by rw [Lib.byteCells_append]; rfl] at hw2
            have HY3 := Lib.hid (HY.out.step hw2)
            clear hw2
            go_wp2_with fail
            go_loopg [8] 4 (fun g3 s8 wz => ∃ j : Nat, j + g3 = 4 ∧ s8 = .int .i64 (3 - j) ∧ Hid (QW s w.heap.size I w (bs ++ [92, 117] ++ [48, 48, hexd (n / 16), hexd (n % 16)].take j) q' wz))
            case atStart => exact ⟨0, by omega, rfl, Lib.hid (by rw [List.take_zero, List.append_nil]; exact HY3.out)⟩
            case round =>
              obtain ⟨j, hj, rfl, HZ⟩ := hrel
              clear HY HY3
              have hB2 := HZ.out.2.2.1.size
              rcases (by omega : j = 0 ∨ j = 1 ∨ j = 2 ∨ j = 3 ∨ j = 4) with rfl | rfl | rfl | rfl | rfl
              · go_wp2_with fail
                refine (writeByte_any w.heap.size w.heap.size _ _ _ HZ.out.1 (by rw [Lib.byteCells_length]; simp; omega) hB2).mono ?_
                rintro e w5 ⟨rfl, hw5⟩
                rw [cells_one _ (48) _ (upper_byte (n / 4096 % 16) _ (by omega) (by omega) (by rw [show n / 4096 % 16 = 0 from by omega]; rfl) _), List.append_assoc] at hw5
                have HZ2 : Hid (QW s w.heap.size I w (bs ++ [92, 117] ++ [48, 48, hexd (n / 16), hexd (n % 16)].take 1) q' w5) := Lib.hid (HZ.out.step hw5)
                clear hw5 HZ
                go_wp2_with fail
                go_roundg 3
                case measure => omega
                case rel => exact ⟨1, by omega, by go_num, HZ2⟩
              · go_wp2_with fail
                refine (writeByte_any w.heap.size w.heap.size _ _ _ HZ.out.1 (by rw [Lib.byteCells_length]; simp; omega) hB2).mono ?_
                rintro e w5 ⟨rfl, hw5⟩
                rw [cells_one _ (48) _ (upper_byte (n / 256 % 16) _ (by omega) (by omega) (by rw [show n / 256 % 16 = 0 from by omega]; rfl) _), List.append_assoc] at hw5
                have HZ2 : Hid (QW s w.heap.size I w (bs ++ [92, 117] ++ [48, 48, hexd (n / 16), hexd (n % 16)].take 2) q' w5) := Lib.hid (HZ.out.step hw5)
                clear hw5 HZ
                go_wp2_with fail
                go_roundg 2
                case measure => omega
                case rel => exact ⟨2, by omega, by go_num, HZ2⟩
              · go_wp2_with fail
                refine (writeByte_any w.heap.size w.heap.size _ _ _ HZ.out.1 (by rw [Lib.byteCells_length]; simp; omega) hB2).mono ?_
                rintro e w5 ⟨rfl, hw5⟩
                rw [cells_one _ (hexd (n / 16)) _ (upper_byte (n / 16 % 16) _ (by omega) (by omega) (by rw [show n / 16 % 16 = n / 16 from by omega]) _), List.append_assoc] at hw5
                have HZ2 : Hid (QW s w.heap.size I w (bs ++ [92, 117] ++ [48, 48, hexd (n / 16), hexd (n % 16)].take 3) q' w5) := Lib.hid (HZ.out.step hw5)
                clear hw5 HZ
                go_wp2_with fail
                go_roundg 1
                case measure => omega
                case rel => exact ⟨3, by omega, by go_num, HZ2⟩
              · go_wp2_with fail
                refine (writeByte_any w.heap.size w.heap.size _ _ _ HZ.out.1 (by rw [Lib.byteCells_length]; simp; omega) hB2).mono ?_
                rintro e w5 ⟨rfl, hw5⟩
                rw [cells_one _ (hexd (n % 16)) _ (upper_byte (n % 16) _ (by omega) (by omega) (rfl) _), List.append_assoc] at hw5
                have HZ2 : Hid (QW s w.heap.size I w (bs ++ [92, 117] ++ [48, 48, hexd (n / 16), hexd (n % 16)].take 4) q' w5) := Lib.hid (HZ.out.step hw5)
                clear hw5 HZ
                go_wp2_with fail
                go_roundg 0
                case measure => omega
                case rel => exact ⟨4, by omega, by go_num, HZ2⟩
              · have HY4 : Hid (QW s w.heap.size I w (quoteIn (l.take (k + 1))) q' wr) := Lib.hid (by rw [HQs.out]; exact HZ.out)
                clear HZ
                go_wp2_with fail
                go_roundg (l.length - (k + 1))
                case measure => omega
                case rel => exact ⟨k + 1, q', by omega, HN, HY4⟩
          · have HQs : Hid (quoteIn (l.take (k + 1)) = bs ++ enc n) := Lib.hid (by rw [HT.out]; unfold qsign; rw [if_neg (by rw [HL.out]; simp), if_neg h4])
            have h4' : (classV n != 4) = true := by simpa using h4
            clear h4 HL
            go_wp2_with fail
            refine (class_any n _ (by omega) (by omega)).mono ?_
            rintro e w' ⟨rfl, rfl⟩
            go_wp2_with fail
            refine (writeRune_any w.heap.size w.heap.size (Lib.byteCells bs) n HS.out _ HY.out.1 (by rw [Lib.byteCells_length]; omega) hB).mono ?_
            rintro e w3 ⟨rfl, hw3⟩
            rw [cells_rune] at hw3
            have HY4 := Lib.hid (HY.out.step hw3)
            clear hw3
            rw [← HQs.out] at HY4
            go_wp2_with fail
            go_roundg (l.length - (k + 1))
            case measure => omega
            case rel => exact ⟨k + 1, q', by omega, HN, HY4⟩
    · have hkl : k = l.length := by omega
      have hqe : ¬ q < s.size := by
        have h1 := HR.out.1
        rw [List.append_nil] at h1
        have h2 : s.size = (textB l).length := by rw [← h1]; rfl
        rw [HQ.out, hkl, List.take_length, h2]; omega
      have hnx : ∀ ty, (Instr.next (.pointer (some ⟨I, 0, none⟩)) true ty).run Tryd.prog wr = _ := fun ty => Lib.run_next_end_at wr I s q ty hit hqe
      have HZ : Hid (QW s w.heap.size I w (quoteIn l) q wr) := Lib.hid (by have := HW.out; rw [hkl, List.take_length] at this; exact this)
      have hB := HZ.out.2.2.1.size
      have hql := quoteIn_len l
      clear hkl hqe HW HQ hit
      go_wp2_with fail
      refine (writeByte_any w.heap.size w.heap.size _ 34 _ HZ.out.1 (by rw [Lib.byteCells_length]; omega) hB).mono ?_
      rintro e w2 ⟨rfl, hw2⟩
      rw [cells_one _ 34 34 rfl] at hw2
      have HZ2 := Lib.hid (HZ.out.step hw2)
      have hB2 := HZ2.out.2.2.1.size
      clear hw2 hnx HZ
      go_wp2_with fail
      refine (Tryd.Builder_String_any_k w.heap.size w.heap.size (quoteIn l ++ [34]) _ HZ2.out.1 hB2).mono ?_
      rintro e w3 ⟨rfl, _, hb3, _⟩
      have HF := Lib.hid (HZ2.out.2.2.1.trans hb3)
      clear hb3 HZ2
      go_wp2_with fail
      try rw [Exit.noGoto_ret]
      go_ret
      exact ⟨rfl, HF.out⟩
end Go.Proofs.YtbchkhjkajagfaaDoor
namespace Go.Proofs.YtbchkhjkajagfaaDoor
open Go Go.RowKit
theorem read_join {a b : List UInt8} {l m : List Int} (ha : Read a l []) (hb : Read b m []) : Read (a ++ b) (l ++ m) [] := by
  obtain ⟨rfl, h2, _⟩ := ha
  obtain ⟨rfl, g2, _⟩ := hb
  refine ⟨by rw [List.append_nil, List.append_nil, List.append_nil, textB_append], ?_, noSign_nil⟩
  intro n hn
  rcases List.mem_append.1 hn with h | h
  · exact h2 n h
  · exact g2 n h
theorem join_data (a b : ByteArray) : (a ++ b).data.toList = a.data.toList ++ b.data.toList := by rw [ByteArray.data_append, Array.toList_append]
theorem read_join2 {a b : ByteArray} {l m : List Int} (ha : Read a.data.toList l []) (hb : Read b.data.toList m []) : Read (a ++ b).data.toList (l ++ m) [] := by
  rw [join_data]; exact read_join ha hb
end Go.Proofs.YtbchkhjkajagfaaDoor
namespace Go.Proofs.YtbchkhjkajagfaaDoor
open Go Go.RowKit
theorem quoteB_len (l : List Int) : 2 ≤ (quoteB l).length := by unfold quoteB quoteIn; simp
/-- two quotations, the one's end and the other's beginning taken off -/
theorem quote_pieces (l m : List Int) : quoteB (l ++ m) = (quoteB l).take ((quoteB l).length - 1) ++ (quoteB m).drop 1 := by
  have e1 : (quoteB l).take ((quoteB l).length - 1) = quoteIn l := by
    unfold quoteB
    rw [List.length_append]
    simp
  have e2 : (quoteB m).drop 1 = m.flatMap qsign ++ [34] := by unfold quoteB quoteIn; simp
  rw [e1, e2]
  unfold quoteB quoteIn
  rw [List.flatMap_append]
  simp
theorem bytes_eq {a b : ByteArray} (h : a.data.toList = b.data.toList) : a = b := by
  cases a; cases b
  simp only [ByteArray.mk.injEq] at h ⊢
  exact Array.toList_inj.1 h
theorem extract_list (s : ByteArray) (a b : Nat) : (s.extract a b).data.toList = (s.data.toList.drop a).take (b - a) := by
  rw [ByteArray.data_extract, Array.toList_extract, List.extract_eq_take_drop]
end Go.Proofs.YtbchkhjkajagfaaDoor
namespace Go.Proofs.YtbchkhjkajagfaaDoor
open Go Go.RowKit
def hexI (d : Int) : Int := if d < 10 then 48 + d else 55 + d
/-- a sign as it stands in quotation marks, sign by sign -/
def qs (n : Int) : List Int := if letterV n ≠ 0 then [92, letterV n] else if classV n = 4 then [92, 117, 48, 48, hexI (n / 16), hexI (n % 16)] else [n]
def qsignsIn (l : List Int) : List Int := 34 :: l.flatMap qs
def qsigns (l : List Int) : List Int := qsignsIn l ++ [34]
theorem enc_ascii {n : Int} (h0 : 0 ≤ n) (h1 : n ≤ 127) : enc n = [n.toNat.toUInt8] := by
  unfold enc Lib.encodeRune
  rw [Lib.encodeRuneZ_one h0 h1]; rfl
theorem letter_bd (n : Int) : 0 ≤ letterV n ∧ letterV n ≤ 127 := by unfold letterV; (repeat' split) <;> omega
theorem class4_bd {n : Int} (h : classV n = 4) : 0 ≤ n ∧ n < 160 ∧ n ≠ 9 ∧ n ≠ 10 ∧ n ≠ 13 := by
  unfold classV SignP at h
  (repeat' split at h) <;> omega
theorem hexI_bd {d : Int} (h0 : 0 ≤ d) (h1 : d < 16) : 48 ≤ hexI d ∧ hexI d ≤ 70 ∧ (hexI d ≤ 57 ∨ 65 ≤ hexI d) := by unfold hexI; split <;> omega
theorem hexd_eq (d : Int) : hexd d = (hexI d).toNat.toUInt8 := by unfold hexd hexI; split <;> rfl
theorem textB_qs {n : Int} (_hn : SignP n) : textB (qs n) = qsign n := by
  have hl := letter_bd n
  unfold qs qsign
  by_cases h : letterV n ≠ 0
  · rw [if_pos h, if_pos h]
    rw [textB_cons, textB_one, enc_ascii (by omega) (by omega), enc_ascii hl.1 hl.2]; rfl
  · rw [if_neg h, if_neg h]
    by_cases h4 : classV n = 4
    · obtain ⟨c1, c2, _⟩ := class4_bd h4
      have b1 := hexI_bd (d := n / 16) (by omega) (by omega)
      have b2 := hexI_bd (d := n % 16) (by omega) (by omega)
      rw [if_pos h4, if_pos h4, hexd_eq, hexd_eq]
      simp only [textB_cons, textB_nil]
      rw [enc_ascii (n := hexI (n / 16)) (by omega) (by omega), enc_ascii (n := hexI (n % 16)) (by omega) (by omega), enc_ascii (n := 92) (by omega) (by omega), enc_ascii (n := 117) (by omega) (by omega), enc_ascii (n := 48) (by omega) (by omega)]
      rfl
    · rw [if_neg h4, if_neg h4, textB_one]
theorem textB_flat (l : List Int) (hl : ∀ n ∈ l, SignP n) : textB (l.flatMap qs) = l.flatMap qsign := by
  induction l with
  | nil => rfl
  | cons n l ih =>
    rw [List.flatMap_cons, List.flatMap_cons, textB_append, textB_qs (hl n List.mem_cons_self), ih (fun x hx => hl x (List.mem_cons_of_mem _ hx))]
theorem textB_q (l : List Int) (hl : ∀ n ∈ l, SignP n) : textB (qsigns l) = quoteB l := by
  unfold qsigns qsignsIn quoteB quoteIn
  rw [textB_append, textB_cons, textB_flat l hl, textB_one, enc_ascii (n := 34) (by omega) (by omega)]
  rfl
theorem small_sign {n : Int} (h0 : 0 ≤ n) (h1 : n ≤ 127) : SignP n := .inl ⟨h0, by omega⟩
theorem qs_sign {n m : Int} (hn : SignP n) (hm : m ∈ qs n) : SignP m ∧ classV m ≠ 4 ∧ m ≠ 9 ∧ m ≠ 10 ∧ m ≠ 13 := by
  have hl := letter_bd n
  have plain : ∀ x : Int, 33 ≤ x → x ≤ 126 → SignP x ∧ classV x ≠ 4 ∧ x ≠ 9 ∧ x ≠ 10 ∧ x ≠ 13 := by
    intro x h0 h1
    refine ⟨small_sign (by omega) (by omega), ?_, by omega, by omega, by omega⟩
    unfold classV SignP
    (repeat' split) <;> omega
  unfold qs at hm
  by_cases h : letterV n ≠ 0
  · rw [if_pos h] at hm
    have hl2 : 33 ≤ letterV n ∧ letterV n ≤ 126 := by unfold letterV at h ⊢; (repeat' split at h) <;> (repeat' split) <;> omega
    rcases List.mem_cons.1 hm with rfl | hm
    · exact plain _ (by omega) (by omega)
    · obtain rfl := List.mem_singleton.1 hm
      exact plain _ hl2.1 hl2.2
  · rw [if_neg h] at hm
    by_cases h4 : classV n = 4
    · obtain ⟨c1, c2, _⟩ := class4_bd h4
      have b1 := hexI_bd (d := n / 16) (by omega) (by omega)
      have b2 := hexI_bd (d := n % 16) (by omega) (by omega)
      rw [if_pos h4] at hm
      simp only [List.mem_cons, List.not_mem_nil, or_false] at hm
      rcases hm with rfl | rfl | rfl | rfl | rfl | rfl
      all_goals exact plain _ (by omega) (by omega)
    · rw [if_neg h4] at hm
      obtain rfl := List.mem_singleton.1 hm
      have h0 : letterV m = 0 := Classical.not_not.1 h
      refine ⟨hn, h4, ?_, ?_, ?_⟩ <;> (rintro rfl; exact absurd h0 (by decide))
theorem q_sign {l : List Int} (hl : ∀ n ∈ l, SignP n) {m : Int} (hm : m ∈ qsigns l) : SignP m ∧ classV m ≠ 4 ∧ m ≠ 9 ∧ m ≠ 10 ∧ m ≠ 13 := by
  unfold qsigns qsignsIn at hm
  have h34 : SignP 34 ∧ classV 34 ≠ 4 ∧ (34 : Int) ≠ 9 ∧ (34 : Int) ≠ 10 ∧ (34 : Int) ≠ 13 := by decide
  rcases List.mem_append.1 hm with h | h
  · rcases List.mem_cons.1 h with rfl | h
    · exact h34
    · obtain ⟨n, hn, hmn⟩ := List.mem_flatMap.1 h
      exact qs_sign (hl n hn) hmn
  · obtain rfl := List.mem_singleton.1 h
    exact h34
theorem read_q {l : List Int} (hl : ∀ n ∈ l, SignP n) : Read (quoteB l) (qsigns l) [] := ⟨by rw [List.append_nil, textB_q l hl], fun _ hm => (q_sign hl hm).1, noSign_nil⟩
theorem letter_inj {a b : Int} (ha : letterV a ≠ 0) (h : letterV a = letterV b) : a = b := by
  unfold letterV at ha h
  (repeat' split at h) <;> omega
theorem letter_117 (a : Int) : letterV a ≠ 117 := by unfold letterV; (repeat' split) <;> omega
theorem letter_92 : letterV 92 = 92 := by decide
theorem hexI_inj {a b : Int} (h : hexI a = hexI b) (a0 : 0 ≤ a) (a1 : a < 16) (b0 : 0 ≤ b) (b1 : b < 16) : a = b := by
  unfold hexI at h; (repeat' split at h) <;> omega
/-- no sign's quotation is the beginning of another's -/
theorem qs_free {a b : Int} {x y : List Int} (h : qs a ++ x = qs b ++ y) : a = b := by
  unfold qs at h
  by_cases ha : letterV a ≠ 0
  · rw [if_pos ha] at h
    by_cases hb : letterV b ≠ 0
    · rw [if_pos hb] at h
      simp at h
      exact letter_inj ha h.1
    · rw [if_neg hb] at h
      by_cases hb4 : classV b = 4
      · rw [if_pos hb4] at h
        simp at h
        exact absurd h.1 (letter_117 a)
      · rw [if_neg hb4] at h
        simp at h
        rw [← h.1] at hb
        exact absurd hb (by rw [letter_92]; decide)
  · rw [if_neg ha] at h
    by_cases ha4 : classV a = 4
    · rw [if_pos ha4] at h
      by_cases hb : letterV b ≠ 0
      · rw [if_pos hb] at h
        simp at h
        exact absurd h.1.symm (letter_117 b)
      · rw [if_neg hb] at h
        by_cases hb4 : classV b = 4
        · rw [if_pos hb4] at h
          simp at h
          obtain ⟨c1, c2, _⟩ := class4_bd ha4
          obtain ⟨d1, d2, _⟩ := class4_bd hb4
          have e1 := hexI_inj h.1 (by omega) (by omega) (by omega) (by omega)
          have e2 := hexI_inj h.2.1 (by omega) (by omega) (by omega) (by omega)
          omega
        · rw [if_neg hb4] at h
          simp at h
          rw [← h.1] at hb
          exact absurd hb (by rw [letter_92]; decide)
    · rw [if_neg ha4] at h
      by_cases hb : letterV b ≠ 0
      · rw [if_pos hb] at h
        simp at h
        rw [h.1] at ha
        exact absurd ha (by rw [letter_92]; decide)
      · rw [if_neg hb] at h
        by_cases hb4 : classV b = 4
        · rw [if_pos hb4] at h
          simp at h
          rw [h.1] at ha
          exact absurd ha (by rw [letter_92]; decide)
        · rw [if_neg hb4] at h
          simp at h
          exact h.1
theorem qs_ne (a : Int) : qs a ≠ [] := by unfold qs; (repeat' split) <;> simp
theorem flat_inj {l m : List Int} (h : l.flatMap qs = m.flatMap qs) : l = m := by
  induction l generalizing m with
  | nil =>
    cases m with
    | nil => rfl
    | cons b m =>
      rw [List.flatMap_cons, List.flatMap_nil] at h
      exact absurd (List.append_eq_nil_iff.1 h.symm).1 (qs_ne b)
  | cons a l ih =>
    cases m with
    | nil =>
      rw [List.flatMap_cons, List.flatMap_nil] at h
      exact absurd (List.append_eq_nil_iff.1 h).1 (qs_ne a)
    | cons b m =>
      rw [List.flatMap_cons, List.flatMap_cons] at h
      obtain rfl := qs_free h
      rw [ih (List.append_cancel_left h)]
theorem quote_inj {l m : List Int} (hl : ∀ n ∈ l, SignP n) (hm : ∀ n ∈ m, SignP n) (h : quoteB l = quoteB m) : l = m := by
  have h1 := read_q hl
  rw [h] at h1
  have h2 := (read_one h1 (read_q hm)).1
  unfold qsigns qsignsIn at h2
  have h3 := List.append_cancel_right h2
  injection h3 with _ h4
  exact flat_inj h4
end Go.Proofs.YtbchkhjkajagfaaDoor
namespace Go.Proofs.YtbchkhjkajagfaaDoor
open Go Go.RowKit
/-- an owned row of integers of at least one element: its address, its cells -/
theorem ints_cells {w : World} {base : Nat} {L : List Int} {a : Option Addr} {cap : Nat} (ho : w.ownsRow base 3 1 (.slice a L.length cap) L.length (intsV L)) (hn : 0 < L.length) :
    ∃ g, a = some ⟨g, 0, none⟩ ∧ ∀ j (hj : j < L.length), w.cell? ⟨g, j, none⟩ = some (.int .i64 (L[j]'hj)) := by
  rcases ho.2 with ⟨h1, _⟩ | ⟨g, c, cur, h1, h2, _⟩
  · injection h1 with _ h _; omega
  · injection h1 with h _ _
    subst h
    refine ⟨g, rfl, fun j hj => ?_⟩
    rw [ho.cellAt j (by omega)]
    unfold intsV
    rw [List.getElem?_map, List.getElem?_eq_getElem hj]
    rfl
theorem list_ne {P T : ByteArray} (h : P ≠ T) : (P.toList == T.toList) = false := by
  rw [beq_eq_false_iff_ne]
  intro e
  rw [Lib.toList_data, Lib.toList_data] at e
  exact h (bytes_eq e)
end Go.Proofs.YtbchkhjkajagfaaDoor
