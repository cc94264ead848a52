/- Contracts of package scan's wrong, Good, Len over this seat's program. Every bytes (up to a megabyte). -/
import Derived.Test.YtghimladdioajaaScRead
import Derived.Test.YtghimladdioajaaShelf
import Derived.Lib.OthersKept
import Derived.Lib.RuneCount
namespace Go.Proofs.Ytghimladdioajaa
open Go Go.RowKit

theorem has_fffd {x : List UInt8} (h : enc 65533 <+: x) : Lib.hasPrefix x [239, 191, 189] = true := by
  have e : enc 65533 = [239, 191, 189] := by decide
  rw [e] at h
  unfold Lib.hasPrefix
  exact List.isPrefixOf_iff_prefix.2 h
theorem no_fffd {x : List UInt8} (h : NoSign x) : Lib.hasPrefix x [239, 191, 189] = false := by
  have e : enc 65533 = [239, 191, 189] := by decide
  have h2 := h 65533 (.inr ⟨by omega, by omega⟩)
  rw [e] at h2
  unfold Lib.hasPrefix
  cases hh : List.isPrefixOf [239, 191, 189] x with
  | false => rfl
  | true => exact absurd (List.isPrefixOf_iff_prefix.1 hh) h2
/-- what Go reads at a place: the sign that stands there; or, at the end of the signs, one byte that is none -/
theorem decode_here {s : ByteArray} {l : List Int} {r : List UInt8} (h : Read s.data.toList l r) {k q : Nat} (hk : k < l.length) (hq : q = (textB (l.take k)).length) :
    Utf8.decode s q = ((l[k]'hk).toNat, (enc (l[k]'hk)).length) := by
  obtain ⟨h1, ⟨t, h2⟩, _⟩ := read_here h hk
  rw [decode_eq, hq, ← h2]
  exact decL_enc h1 t
theorem decode_end {s : ByteArray} {l : List Int} {r : List UInt8} (h : Read s.data.toList l r) {q : Nat} (hr : r ≠ []) (hq : q = (textB (l.take l.length)).length) : Utf8.decode s q = (65533, 1) := by
  rw [decode_eq, hq, read_end h]
  exact decL_none hr h.2.2
theorem rest_ne {s : ByteArray} {l : List Int} {r : List UInt8} (h : Read s.data.toList l r) {q : Nat} (hq : q = (textB (l.take l.length)).length) (hlt : q < s.size) : r ≠ [] := by
  intro hr
  have h1 := read_end h
  rw [← hq] at h1
  have h2 := congrArg List.length h1
  rw [List.length_drop, hr] at h2
  have : s.data.toList.length = s.size := rfl
  simp at h2
  omega
theorem rest_none {s : ByteArray} {l : List Int} {r : List UInt8} (h : Read s.data.toList l r) {k q : Nat} (_hk : k ≤ l.length) (hq : q = (textB (l.take k)).length) (hge : s.size ≤ q) : k = l.length ∧ r = [] := by
  have hs : s.data.toList.length = s.size := rfl
  refine ⟨?_, ?_⟩
  · rcases Nat.lt_or_ge k l.length with h1 | h1
    · have h2 := (read_here h h1).2.2
      rw [← hq] at h2
      omega
    · omega
  · have h1 := congrArg List.length (read_at h k)
    rw [← hq, List.length_drop, List.length_append] at h1
    exact List.eq_nil_of_length_eq_zero (by omega)
def WrongRes (v : Int) (w : World) (e : Ending) (w' : World) : Prop := e = .returned (.int .i64 v) ∧ Below w.heap.size w w'
set_option maxHeartbeats 1600000 in
theorem wrong_any (s : ByteArray) (l : List Int) (r : List UInt8) (w : World) (h : Read s.data.toList l r) (hs : s.size ≤ 1048576) (v : Int) (hv : v = if r = [] then -1 else (l.length : Int)) : Calls Try.prog 78 #[.string s] w (WrongRes v w) := by
  have HR := Lib.hid h
  have HV := Lib.hid hv
  have hll : l.length ≤ s.size := read_len h
  clear h hv
  go_enter Try.func78, Try.ntmps78
  go_wp2_with fail
  go_loopw [3] (fun p wr => ∃ (k q : Nat), k ≤ l.length ∧ q ≤ s.size ∧ Hid (q = (textB (l.take k)).length) ∧ p = .int .i64 k ∧ wr.heap[w.heap.size]? = some (.stringIter s q) ∧ Below w.heap.size w wr)
    (fun _ wr => s.size - wr.iterPos w.heap.size)
  case atStart => exact ⟨0, 0, by omega, by omega, Lib.hid rfl, rfl, World.iter_heap w s 0, (Below.refl _ w).alloc (Nat.le_refl _) _⟩
  case round =>
    obtain ⟨k, q, hk, hq, HQ, rfl, hit, hb⟩ := hrel
    by_cases hlt : q < s.size
    · have hnx : ∀ ty, (Instr.next (.pointer (some ⟨w.heap.size, 0, none⟩)) true ty).run Try.prog wr = _ := fun ty => Lib.run_next_any_at wr w.heap.size s q ty hit hlt
      by_cases hk' : k < l.length
      · rw [decode_here HR.out hk' HQ.out] at hnx
        have hn := (read_here HR.out hk').1
        have hit2 := Lib.iterAt_heap wr w.heap.size s q (q + (enc (l[k]'hk')).length) hit
        have hbw2 := Lib.below_iterAt hb (k := w.heap.size) (Nat.le_refl _) s (q + (enc (l[k]'hk')).length)
        have HN : Hid (q + (enc (l[k]'hk')).length = (textB (l.take (k + 1))).length) := Lib.hid (by rw [read_next HR.out hk', ← HQ.out])
        have hle : q + (enc (l[k]'hk')).length ≤ s.size := by have := read_le HR.out (k + 1); rw [← HN.out] at this; exact this
        have hpos := enc_pos (l[k]'hk')
        have HP := Lib.hid (read_here HR.out hk').2.1
        have hn0 : (((l[k]'hk').toNat : Nat) : Int) = l[k]'hk' := by unfold SignP at hn; omega
        rw [hn0] at hnx
        clear hn0
        generalize l[k]'hk' = n at hnx hit2 hbw2 HN hle hpos HP hn
        have HB := Lib.hid hbw2
        have HIt := Lib.hid hit2
        have hm : s.size - wr.iterPos w.heap.size = s.size - q := by simp [World.iterPos, hit]
        have hm2 : s.size - (wr.iterAt w.heap.size s (q + (enc n).length)).iterPos w.heap.size = s.size - (q + (enc n).length) := by simp [World.iterPos, hit2]
        have HM := Lib.hid hm
        have HM2 := Lib.hid hm2
        clear hm hm2 hit2 hbw2 hb hit
        by_cases h3 : n = 65533
        · subst h3
          have HF : Hid (Lib.hasPrefix (s.extract q s.size).data.toList [239, 191, 189] = true) := Lib.hid (by rw [drop_bytes, HQ.out]; exact has_fffd HP.out)
          go_wp2_with (go_at_call 84; refine (Try.strings_HasPrefix _ _ _).mono ?_; rintro e w' ⟨rfl, rfl⟩; rw [show Lib.hasPrefix (s.extract q s.size).data.toList _ = true from HF.out])
          go_roundw
          case rel => exact ⟨k + 1, q + (enc 65533).length, by omega, hle, HN, by go_num, HIt.out, HB.out⟩
          case measure => rw [HM.out, HM2.out]; omega
        · have h4 : (n == 65533) = false := beq_eq_false_iff_ne.mpr h3
          clear h3
          go_wp2_with fail
          go_roundw
          case rel => exact ⟨k + 1, q + (enc n).length, by omega, hle, HN, by go_num, HIt.out, HB.out⟩
          case measure => rw [HM.out, HM2.out]; omega
      · obtain rfl : k = l.length := by omega
        have hr := rest_ne HR.out HQ.out hlt
        rw [decode_end HR.out hr HQ.out] at hnx
        have HF : Hid (Lib.hasPrefix (s.extract q s.size).data.toList [239, 191, 189] = false) := Lib.hid (by rw [drop_bytes, HQ.out, read_end HR.out]; exact no_fffd HR.out.2.2)
        have HB := Lib.hid (Lib.below_iterAt hb (k := w.heap.size) (Nat.le_refl _) s (q + 1))
        have HVr : Hid (v = l.length) := Lib.hid (by rw [HV.out, if_neg hr])
        clear hb hit hr
        go_wp2_with (go_at_call 84; refine (Try.strings_HasPrefix _ _ _).mono ?_; rintro e w' ⟨rfl, rfl⟩; rw [show Lib.hasPrefix (s.extract q s.size).data.toList _ = false from HF.out])
        go_ret
        exact ⟨ret_int HVr.out.symm, HB.out⟩
    · have hnx : ∀ ty, (Instr.next (.pointer (some ⟨w.heap.size, 0, none⟩)) true ty).run Try.prog wr = _ := fun ty => Lib.run_next_end_at wr w.heap.size s q ty hit hlt
      obtain ⟨h1, h2⟩ := rest_none HR.out hk HQ.out (by omega)
      have HVr : Hid (v = -1) := Lib.hid (by rw [HV.out, if_pos h2])
      clear h1 h2
      go_wp2_with fail
      go_ret
      exact ⟨ret_int HVr.out.symm, hb⟩
theorem good_any (s : ByteArray) (l : List Int) (r : List UInt8) (w : World) (h : Read s.data.toList l r) (hs : s.size ≤ 1048576) :
    Calls Try.prog 75 #[.string s] w fun e w' => e = .returned (.bool r.isEmpty) ∧ Below w.heap.size w w' := by
  cases r with
  | nil =>
    have HW := Lib.hid (wrong_any s l [] w h hs (-1) (by rw [if_pos rfl]))
    clear h
    go_enter Try.func75, Try.ntmps75
    go_wp2_with fail
    refine HW.out.mono ?_
    rintro e w' ⟨rfl, hb⟩
    go_wp2_with fail
    go_ret
    exact ⟨rfl, hb⟩
  | cons b r =>
    have HW := Lib.hid (wrong_any s l (b :: r) w h hs l.length (by rw [if_neg (by simp)]))
    clear h
    go_enter Try.func75, Try.ntmps75
    go_wp2_with fail
    refine HW.out.mono ?_
    rintro e w' ⟨rfl, hb⟩
    go_wp2_with fail
    go_ret
    exact ⟨rfl, hb⟩
end Go.Proofs.Ytghimladdioajaa
