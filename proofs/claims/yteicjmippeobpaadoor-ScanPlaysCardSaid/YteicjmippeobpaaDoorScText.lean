/- The contract of the document's Text over this seat's program: the bytes of any signs. -/
import Derived.Test.YteicjmippeobpaaDoorScRun
import Derived.Lib.BufferWrite
namespace Go.Proofs.YteicjmippeobpaaDoor
open Go Go.RowKit
set_option linter.unusedVariables false
def tBytes (l : List Int) : ByteArray := ⟨(textB l).toArray⟩
theorem textB_le (l : List Int) : (textB l).length ≤ 4 * l.length := by
  induction l with
  | nil => simp [textB]
  | cons n l ih =>
    have := (enc_pos n).2
    rw [textB_cons, List.length_append, List.length_cons]; omega
theorem rune_one (n : Int) : ∀ u ∈ Lib.runeCells n, u.oneCell' = true := by
  intro u hu
  unfold Lib.runeCells at hu
  obtain ⟨x, _, rfl⟩ := List.mem_map.1 hu
  rfl
theorem rune_len (n : Int) : (Lib.runeCells n).length = (enc n).length := by rw [Lib.runeCells_length]; rfl
theorem back_text (w : World) (base : Nat) (a : Option Addr) (m c : Nat) (bs : List UInt8) (hm : m = bs.length) (ho : w.ownsRow base 5 1 (.slice a m c) m (Lib.byteCells bs)) :
    (convert 58 9 (.slice a m c)).run Tryd.prog w = .ok (.string ⟨bs.toArray⟩) w := by
  subst hm
  rcases ho.2 with ⟨h1, h2⟩ | ⟨g, c', cur, h1, _⟩
  · injection h1 with e1 e2 e3
    subst e1 e3
    have : bs = [] := List.eq_nil_of_length_eq_zero e2
    subst this
    rw [run_convert_bytes_string w 58 9 5 none _ _ Tryd.underlying58 Tryd.underlying5 Tryd.underlying9]
    simp [Conv.bytesToString]
    rfl
  · injection h1 with e1 _ _
    subst e1
    refine run_convert_bytes_back w 58 9 5 ⟨g, 0, none⟩ c bs Tryd.underlying58 Tryd.underlying5 Tryd.underlying9 (fun j hj => ?_)
    have := ho.cells (g := g) rfl j (.int .u8 (bs[j].toNat : Int)) (by simp [Lib.byteCells, hj])
    exact this
set_option maxHeartbeats 1600000 in
theorem text_any (L : List Int) (a : Option Addr) (n c X : Nat) (w : World) (h : ClsAt L a n X w) (hl : ∀ x ∈ L, SignP x) (hn : n ≤ 1000000) :
    Calls Tryd.prog 29 #[.slice a n c] w fun e w' => e = .returned (.string (tBytes L)) ∧ Below w.heap.size w w' := by
  obtain ⟨i0, hi, hz0, hz1, hz2⟩ := info_parts infoByte
  have HC := Lib.hid h
  have hnl1 : n ≤ L.length := Nat.le_of_eq h.1
  have hnl2 : L.length ≤ n := Nat.le_of_eq h.1.symm
  have HL := Lib.hid hl
  clear h hl
  go_enter Tryd.func29, Tryd.ntmps29
  go_wp2_with fail
  go_loopw [3, 7] (fun v i wr => ∃ (k m : Nat) (a' : Option Addr) (c' : Nat), k ≤ n ∧ m ≤ 4 * k ∧ Hid (m = (textB (L.take k)).length) ∧ i = .int .i64 k ∧ v = .slice a' m c' ∧ wr.ownsRow w.heap.size 5 1 (.slice a' m c') m (Lib.byteCells (textB (L.take k))) ∧ Below w.heap.size w wr)
    (fun _ i _ => n - (intOf i).toNat)
  case atStart => exact ⟨0, 0, none, 0, by omega, by omega, Lib.hid rfl, rfl, rfl, World.ownsRow_nil _ _ _ _, Below.refl _ _⟩
  case round =>
    obtain ⟨k, m, a', c', hk, hm4, HM, rfl, rfl, hown, hb⟩ := hrel
    have hsz := hb.size
    by_cases hlt : k < n
    · have hkL : k < L.length := by omega
      obtain ⟨b, off, ha, hcell⟩ : ∃ b off, a = some ⟨b, off, none⟩ ∧ wr.cell? ⟨b, off + k, none⟩ = some (.int .i64 (L[k]'hkL)) := by
        rcases (HC.out.below hb).2 with h0 | ⟨b, off, h1, _, _, h4⟩
        · omega
        · refine ⟨b, off, h1, ?_⟩
          rw [h4 k hkL, List.getD_eq_getElem?_getD, List.getElem?_eq_getElem hkL]; rfl
      have hsn := Lib.hid (HL.out _ (List.getElem_mem hkL))
      have HT : Hid (textB (L.take (k + 1)) = textB (L.take k) ++ enc (L[k]'hkL)) := Lib.hid (by rw [List.take_succ_eq_append_getElem hkL, textB_snoc])
      generalize L[k] = x at hcell hsn HT
      have hpos := enc_pos x
      subst ha
      go_wp2_with fail
      refine (bytes_any x _ hsn.out).mono ?_
      rintro e w2 ⟨rfl, hw2⟩
      have hnew : w2.heap[wr.heap.size]? = some (.cells (Lib.runeCells x).toArray 5 (0, 0)) := by rw [hw2]; exact heap_alloc_new _ _
      have hbb : Below wr.heap.size wr w2 := by rw [hw2]; exact (Below.refl _ _).alloc (Nat.le_refl _) _
      have ho2 := ownsRow_below hown hbb
      have hb2 := hb.trans (hbb.mono hsz)
      have hs2 := hb2.size
      have HN := Lib.hid (fun (j : Nat) (u : Value) (hj : (Lib.runeCells x)[j]? = some u) => show w2.cell? ((⟨wr.heap.size, 0, none⟩ : Addr).add j) = some u by
        have e : (⟨wr.heap.size, 0, none⟩ : Addr).add j = ⟨wr.heap.size, j, none⟩ := by
          unfold Addr.add
          split
          · subst_vars; rfl
          · simp
        rw [e, Lib.cell_of_heap hnew]
        simpa using hj)
      clear hw2 hnew hbb hown hb hcell
      go_wp2_with (at_builtin; refine wpList_append_own _ rfl (.tmp 10) (.tmp 15) 58 rfl w.heap.size 5 i0 (.int .u8 0) 1 1 Tryd.underlying58 hi hz0 hz1 hz2 rfl (by decide) _ _ _ rfl ho2 ⟨wr.heap.size, 0, none⟩ (enc x).length (enc x).length (Lib.runeCells x) rfl (by rw [rune_len]; omega) HN.out (rune_one x) (by unfold maxLen; omega) (by omega) (by omega) ?_; intro v' w4 oa ga _; obtain ⟨a4, c4, rfl⟩ := own_form oa; have hb4 : Below w.heap.size w w4 := hb2.grown ga (by omega) (fun g hg => (ho2.lt g hg).1); clear ga)
      have HM2 : Hid (m + (enc x).length = (textB (L.take (k + 1))).length) := Lib.hid (by rw [HT.out, List.length_append, ← HM.out])
      have oa2 : w4.ownsRow w.heap.size 5 1 (.slice a4 (m + (enc x).length) c4) (m + (enc x).length) (Lib.byteCells (textB (L.take (k + 1)))) := by
        rw [HT.out, Lib.byteCells_append]
        rw [show Lib.byteCells (enc x) = Lib.runeCells x from Lib.byteCells_encodeRune x]
        exact oa
      go_roundw
      case rel => exact ⟨k + 1, m + (enc x).length, a4, c4, by omega, by omega, HM2, by go_num, rfl, oa2, hb4⟩
      case measure => simp [intOf]; omega
    · have hkn : k = L.length := by omega
      have hcv : (convert 58 9 (.slice a' m c')).run Tryd.prog wr = .ok (.string (tBytes L)) wr := by
        have := back_text wr w.heap.size a' m c' (textB (L.take k)) HM.out hown
        rw [hkn, List.take_length] at this
        exact this
      clear hkn
      go_wp2_with fail
      go_ret
      exact ⟨rfl, hb⟩
end Go.Proofs.YteicjmippeobpaaDoor
