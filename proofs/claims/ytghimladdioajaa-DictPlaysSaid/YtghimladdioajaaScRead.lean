/- The contract of the document's Signs over this seat's program: the signs of any bytes, as far as they are signs'. -/
import Derived.Test.YtghimladdioajaaScSigns
import Derived.Lib.Strings
import Derived.WalkSpells
namespace Go.Proofs.Ytghimladdioajaa
open Go Go.RowKit
theorem infoI : (Try.prog.info? 3).map (fun i => (i.zero, i.size, i.bytes)) = some (some (.int .i64 0), 1, 8) := by kernel_rfl
theorem textB_ge (l : List Int) : l.length ≤ (textB l).length := by
  induction l with
  | nil => simp
  | cons n l ih =>
    have := (enc_pos n).1
    rw [textB_cons, List.length_append, List.length_cons]
    omega
theorem drop_bytes (s : ByteArray) (p : Nat) : (s.extract p s.size).data.toList = s.data.toList.drop p := by
  rw [ByteArray.data_extract, Array.toList_extract]
  have : s.size = s.data.toList.length := rfl
  rw [List.extract_eq_take_drop]
  rw [this, List.take_of_length_le (by rw [List.length_drop]; exact Nat.le_refl _)]
/-- where k signs have been read: what stands there -/
theorem read_at {bs : List UInt8} {l : List Int} {r : List UInt8} (h : Read bs l r) (k : Nat) : bs.drop (textB (l.take k)).length = textB (l.drop k) ++ r := by
  obtain ⟨rfl, _, _⟩ := h
  have e : textB l = textB (l.take k) ++ textB (l.drop k) := by rw [← textB_append, List.take_append_drop]
  rw [e, List.append_assoc, List.drop_left]
theorem read_next {bs : List UInt8} {l : List Int} {r : List UInt8} (_h : Read bs l r) {k : Nat} (hk : k < l.length) : (textB (l.take (k + 1))).length = (textB (l.take k)).length + (enc (l[k]'hk)).length := by
  rw [List.take_succ_eq_append_getElem hk, textB_snoc, List.length_append]
theorem read_le {bs : List UInt8} {l : List Int} {r : List UInt8} (h : Read bs l r) (k : Nat) : (textB (l.take k)).length ≤ bs.length := by
  have h' := h
  obtain ⟨rfl, _, _⟩ := h'
  have e : textB l = textB (l.take k) ++ textB (l.drop k) := by rw [← textB_append, List.take_append_drop]
  rw [e]; simp only [List.length_append]; omega
theorem read_len {bs : List UInt8} {l : List Int} {r : List UInt8} (h : Read bs l r) : l.length ≤ bs.length := by
  obtain ⟨rfl, _, _⟩ := h
  have := textB_ge l
  rw [List.length_append]; omega
/-- a sign stands there -/
theorem read_here {bs : List UInt8} {l : List Int} {r : List UInt8} (h : Read bs l r) {k : Nat} (hk : k < l.length) : SignP (l[k]'hk) ∧ enc (l[k]'hk) <+: bs.drop (textB (l.take k)).length ∧ (textB (l.take k)).length < bs.length := by
  have h1 := read_at h k
  have e : l.drop k = l[k] :: l.drop (k + 1) := List.drop_eq_getElem_cons hk
  refine ⟨h.2.1 _ (List.getElem_mem hk), ?_, ?_⟩
  · rw [h1, e, textB_cons, List.append_assoc]; exact ⟨_, rfl⟩
  · have h2 := congrArg List.length h1
    rw [List.length_drop, e, textB_cons, List.length_append, List.length_append] at h2
    have := (enc_pos (l[k])).1
    omega
/-- none stands there, at the end of the signs -/
theorem read_end {bs : List UInt8} {l : List Int} {r : List UInt8} (h : Read bs l r) : bs.drop (textB (l.take l.length)).length = r := by
  rw [read_at h l.length, List.drop_length]; rfl
theorem sign_one {m n : Int} {r : List UInt8} (hm : SignP m) (hn : SignP n) (h1 : enc m <+: r) (h2 : enc n <+: r) : m = n := by
  obtain ⟨x, rfl⟩ := h1
  obtain ⟨y, hy⟩ := h2
  exact (enc_free hn hm hy).symm
def intsV (l : List Int) : List Value := l.map (Value.int .i64)
theorem intsV_snoc (l : List Int) (n : Int) : intsV (l ++ [n]) = intsV l ++ [.int .i64 n] := by unfold intsV; rw [List.map_append]; rfl
theorem intsV_take {l : List Int} {k : Nat} (hk : k < l.length) : intsV (l.take (k + 1)) = intsV (l.take k) ++ [.int .i64 (l[k]'hk)] := by rw [List.take_succ_eq_append_getElem hk, intsV_snoc]
def SignsRes (l : List Int) (ok : Bool) (w : World) (e : Ending) (w' : World) : Prop :=
  ∃ a cap, e = .returned (.tuple #[.slice a l.length cap, .bool ok]) ∧ w'.ownsRow w.heap.size 3 1 (.slice a l.length cap) l.length (intsV l) ∧ Below w.heap.size w w'
theorem first_here (s : ByteArray) (l : List Int) (r : List UInt8) (w : World) (h : Read s.data.toList l r) (hs : s.size ≤ 1048576) (k q : Nat) (hk : k < l.length) (hq : q = (textB (l.take k)).length) :
    Calls Try.prog 55 #[.string (s.extract q s.size)] w fun e w' => e = .returned (.tuple #[.int .i64 (l[k]'hk), .int .i64 (enc (l[k]'hk)).length]) ∧ Below w.heap.size w w' := by
  obtain ⟨h1, h2, h3⟩ := read_here h hk
  rw [← hq] at h2 h3
  have hlen : s.data.toList.length = s.size := rfl
  refine (first_any _ w (by rw [ByteArray.size_extract]; omega) (by rw [ByteArray.size_extract]; omega)).mono ?_
  rintro e w' ⟨⟨n, n1, n2, rfl⟩ | ⟨n1, rfl⟩, hb⟩
  · rw [drop_bytes] at n2
    rw [sign_one n1 h1 n2 h2]
    exact ⟨rfl, hb⟩
  · rw [drop_bytes] at n1
    exact absurd h2 (n1 _ h1)
theorem first_nowhere (s : ByteArray) (l : List Int) (r : List UInt8) (w : World) (h : Read s.data.toList l r) (hs : s.size ≤ 1048576) (q : Nat) (hq : q = (textB (l.take l.length)).length) (hlt : q < s.size) :
    Calls Try.prog 55 #[.string (s.extract q s.size)] w fun e w' => e = .returned (.tuple #[.int .i64 (-1), .int .i64 0]) ∧ Below w.heap.size w w' := by
  have hr := read_end h
  rw [← hq] at hr
  refine (first_any _ w (by rw [ByteArray.size_extract]; omega) (by rw [ByteArray.size_extract]; omega)).mono ?_
  rintro e w' ⟨⟨n, n1, n2, rfl⟩ | ⟨n1, rfl⟩, hb⟩
  · rw [drop_bytes, hr] at n2
    exact absurd n2 (h.2.2 n n1)
  · exact ⟨rfl, hb⟩
set_option maxHeartbeats 1600000 in
theorem signs_any (s : ByteArray) (l : List Int) (r : List UInt8) (w : World) (h : Read s.data.toList l r) (hs : s.size ≤ 1048576) : Calls Try.prog 43 #[.string s] w (SignsRes l r.isEmpty w) := by
  obtain ⟨i0, hi, hz0, hz1, hz2⟩ := info_parts infoI
  have HR := Lib.hid h
  have hll : l.length ≤ s.size := read_len h
  clear h
  go_enter Try.func43, Try.ntmps43
  go_wp2_with fail
  go_loopw [4, 5] (fun v p wr => ∃ (k q : Nat) (a : Option Addr) (c : Nat), k ≤ l.length ∧ q ≤ s.size ∧ Hid (q = (textB (l.take k)).length) ∧ p = .int .i64 q ∧ v = .slice a k c ∧ wr.ownsRow w.heap.size 3 1 (.slice a k c) k (intsV (l.take k)) ∧ Below w.heap.size w wr)
    (fun _ p _ => s.size - (intOf p).toNat)
  case atStart => exact ⟨0, 0, none, 0, by omega, by omega, Lib.hid rfl, rfl, rfl, World.ownsRow_nil _ _ _ _, Below.refl _ _⟩
  case round =>
    obtain ⟨k, q, a, c, hk, hq, HQ, rfl, rfl, hown, hb⟩ := hrel
    have hsz := hb.size
    by_cases hlt : q < s.size
    · by_cases hk' : k < l.length
      · have HF := Lib.hid (fun w => first_here s l r w HR.out hs k q hk' HQ.out)
        have HN : Hid (q + (enc (l[k]'hk')).length = (textB (l.take (k + 1))).length) := Lib.hid (by rw [read_next HR.out hk', ← HQ.out])
        have hle : q + (enc (l[k]'hk')).length ≤ s.size := by have := read_le HR.out (k + 1); rw [← HN.out] at this; exact this
        have HI := Lib.hid (intsV_take hk')
        have hpos := enc_pos (l[k]'hk')
        generalize l[k]'hk' = n at HF HN hle HI hpos
        have hne : (((enc n).length : Int) == 0) = false := beq_eq_false_iff_ne.mpr (by omega)
        go_wp2_with fail
        refine (HF.out _).mono ?_
        rintro e w2 ⟨rfl, hb2⟩
        have ho2 := ownsRow_below hown hb2
        have hs2 := hb2.size
        have hb' := hb.trans (hb2.mono hsz)
        clear hb2 hown hb
        go_wp2_with (at_builtin; refine wpList_append_own _ rfl (.tmp 22) (.tmp 24) 43 rfl w.heap.size 3 i0 (.int .i64 0) 1 8 Try.underlying43 hi hz0 hz1 hz2 rfl (by decide) _ _ _ rfl (ho2.alloc _) ⟨w2.heap.size, 0, none⟩ 1 1 [.int .i64 n] rfl rfl (cell_one_new _ _ _) (by simp [Value.oneCell']) (by unfold maxLen; omega) (by omega) (by simp; omega) ?_; intro v' w4 oa ga _; obtain ⟨a', c', rfl⟩ := own_form oa; have hb4 : Below w.heap.size w w4 := (hb'.alloc (by omega) _).grown ga (by simp; omega) (fun g hg => (ho2.lt g hg).1); clear ga)
        rw [← HI.out] at oa
        go_roundw
        case rel => exact ⟨k + 1, q + (enc n).length, a', c', by omega, hle, HN, by go_num, rfl, oa, hb4⟩
        case measure => simp [intOf]; omega
      · obtain rfl : k = l.length := by omega
        have HF := Lib.hid (fun w => first_nowhere s l r w HR.out hs q HQ.out hlt)
        have hr : r.isEmpty = false := by
          have h1 := read_end HR.out
          rw [← HQ.out] at h1
          cases hr : r with
          | nil =>
            have h2 := congrArg List.length h1
            rw [List.length_drop, hr] at h2
            have : s.data.toList.length = s.size := rfl
            simp at h2
            omega
          | cons => rfl
        go_wp2_with fail
        refine (HF.out _).mono ?_
        rintro e w2 ⟨rfl, hb2⟩
        have ho2 := ownsRow_below hown hb2
        have hb' := hb.trans (hb2.mono hsz)
        clear hb2 hown hb
        go_wp2_with fail
        go_ret2
        rw [hr]
        exact ⟨a, c, rfl, by simpa using ho2, hb'⟩
    · have hqs : q = s.size := by omega
      have hr : r = [] := by
        have h1 := congrArg List.length (read_at HR.out k)
        rw [← HQ.out, List.length_drop, List.length_append] at h1
        have : s.data.toList.length = s.size := rfl
        exact List.eq_nil_of_length_eq_zero (by omega)
      have hkl : k = l.length := by
        rcases Nat.lt_or_ge k l.length with h1 | h1
        · have h2 := (read_here HR.out h1).2.2
          rw [← HQ.out] at h2
          have : s.data.toList.length = s.size := rfl
          omega
        · omega
      subst hkl hr
      clear hqs
      go_wp2_with fail
      go_ret2
      exact ⟨a, c, rfl, by simpa using hown, hb⟩
end Go.Proofs.Ytghimladdioajaa
