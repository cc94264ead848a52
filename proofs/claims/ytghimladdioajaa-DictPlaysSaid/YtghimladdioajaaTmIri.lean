/- Contracts over this seat's program: an IRI of ASCII signs, none of them barred, is good. -/
import Derived.Test.YtghimladdioajaaTmClass
import Derived.Test.YtghimladdioajaaTmEq
namespace Go.Proofs.Ytghimladdioajaa
open Go Go.RowKit
set_option linter.unusedVariables false
def forbB : ByteArray := ⟨#[60, 62, 34, 123, 125, 124, 94, 96, 92]⟩
/-- a sign of ASCII that may stand in an IRI -/
def okA (n : Int) : Bool := decide (0 ≤ n) && decide (n < 128) && (classV n != 0) && (classV n != 4) && decide (Lib.indexByte forbB.data.toList n.toNat.toUInt8 < 0)
theorem okA_parts {n : Int} (h : okA n = true) : 0 ≤ n ∧ n < 128 ∧ classV n ≠ 0 ∧ classV n ≠ 4 ∧ Lib.indexByte forbB.data.toList n.toNat.toUInt8 < 0 := by
  unfold okA at h
  simp only [Bool.and_eq_true, decide_eq_true_eq, bne_iff_ne] at h
  exact ⟨h.1.1.1.1, h.1.1.1.2, h.1.1.2, h.1.2, h.2⟩
theorem crune_any (n : Int) (w : World) (h0 : 0 ≤ n) (h1 : n < 128) (h : Lib.indexByte forbB.data.toList n.toNat.toUInt8 < 0) :
    Calls Try.prog 81 #[.string ⟨#[60, 62, 34, 123, 125, 124, 94, 96, 92]⟩, .int .i32 n] w fun e w' => e = .returned (.bool false) ∧ w' = w := by
  have := Try.strings_ContainsRune_ascii forbB n w h0 h1
  rw [decide_eq_false (by omega)] at this
  exact this
set_option maxRecDepth 100000 in
set_option maxHeartbeats 1600000 in
theorem iri_yes (s : ByteArray) (l : List Int) (w : World) (h : Read s.data.toList l []) (hs : s.size ≤ 4096) (hi : 1 ≤ Lib.indexByte s.data.toList 58) (hl : l.all okA = true) :
    Calls Try.prog 76 #[.agg #[.string s]] w fun e w' => e = .returned (.bool true) ∧ Below w.heap.size w w' := by
  have HR := Lib.hid h
  have HG := Lib.hid (fun w => good_any s l [] w h (by omega))
  have HL := Lib.hid (fun n (hn : n ∈ l) => okA_parts (List.all_eq_true.1 hl n hn))
  have hll : l.length ≤ s.size := read_len h
  obtain ⟨I, hI⟩ : ∃ I, I = Lib.indexByte s.data.toList 58 := ⟨_, rfl⟩
  have HI : Hid (∀ w, Calls Try.prog 79 #[.string s, .int .u8 58] w fun e w' => e = .returned (.int .i64 I) ∧ w' = w) := Lib.hid (fun w => by rw [hI]; exact Try.strings_IndexByte s 58 w)
  rw [← hI] at hi
  have hs1 : (s.size : Int) ≤ 4096 := by omega
  clear h hl hI
  go_enter Try.func76, Try.ntmps76
  go_wp2_with fail
  refine (HI.out _).mono ?_
  rintro e w' ⟨rfl, rfl⟩
  go_wp2_with fail
  refine (HG.out _).mono ?_
  rintro e w1 ⟨rfl, hb1⟩
  have c0 : w1.cell? ⟨w.heap.size, 0, none⟩ = some (.string s) := cell_below (by simp [go_sem]) hb1
  have hbw : Below w.heap.size w w1 := ((Below.refl w.heap.size w).alloc (Nat.le_refl _) _).trans (hb1.mono (by simp))
  have HB := Lib.hid hbw
  clear hb1 hbw HI HG
  go_wp2_with fail
  go_loopw [] (fun wr => ∃ (k q : Nat), k ≤ l.length ∧ q ≤ s.size ∧ Hid (q = (textB (l.take k)).length) ∧ wr.heap[w1.heap.size]? = some (.stringIter s q) ∧ Below w.heap.size w wr)
    (fun wr => s.size - wr.iterPos w1.heap.size)
  case atStart => exact ⟨0, 0, by omega, by omega, Lib.hid rfl, World.iter_heap w1 s 0, HB.out.alloc HB.out.size _⟩
  case round =>
    obtain ⟨k, q, hk, hq, HQ, hit, hb⟩ := hrel
    have hsz : w.heap.size ≤ w1.heap.size := HB.out.size
    by_cases hlt : q < s.size
    · have hnx : ∀ ty, (Instr.next (.pointer (some ⟨w1.heap.size, 0, none⟩)) true ty).run Try.prog wr = _ := fun ty => Lib.run_next_any_at wr w1.heap.size s q ty hit hlt
      have hk' : k < l.length := by
        rcases Nat.lt_or_ge k l.length with h | h
        · exact h
        · obtain rfl : k = l.length := by omega
          exact absurd rfl (rest_ne HR.out HQ.out hlt)
      rw [decode_here HR.out hk' HQ.out] at hnx
      have hn := (read_here HR.out hk').1
      obtain ⟨n0, n1, n2, n3, n4⟩ := HL.out _ (List.getElem_mem hk')
      have hit2 := Lib.iterAt_heap wr w1.heap.size s q (q + (enc (l[k]'hk')).length) hit
      have hbw2 := Lib.below_iterAt hb (k := w1.heap.size) hsz s (q + (enc (l[k]'hk')).length)
      have HN : Hid (q + (enc (l[k]'hk')).length = (textB (l.take (k + 1))).length) := Lib.hid (by rw [read_next HR.out hk', ← HQ.out])
      have hle : q + (enc (l[k]'hk')).length ≤ s.size := by have := read_le HR.out (k + 1); rw [← HN.out] at this; exact this
      have hpos := enc_pos (l[k]'hk')
      have hn0 : (((l[k]'hk').toNat : Nat) : Int) = l[k]'hk' := by omega
      rw [hn0] at hnx
      clear hn0 hn
      generalize l[k]'hk' = n at hnx hit2 hbw2 HN hle hpos n0 n1 n2 n3 n4
      have HB2 := Lib.hid hbw2
      have HIt := Lib.hid hit2
      have hm : s.size - wr.iterPos w1.heap.size = s.size - q := by simp [World.iterPos, hit]
      have hm2 : s.size - (wr.iterAt w1.heap.size s (q + (enc n).length)).iterPos w1.heap.size = s.size - (q + (enc n).length) := by simp [World.iterPos, hit2]
      have HM := Lib.hid hm
      have HM2 := Lib.hid hm2
      have CL := Lib.hid (fun w => class_any n w (by omega) (by omega))
      have CR := Lib.hid (fun w => crune_any n w n0 n1 n4)
      obtain ⟨c, hc⟩ : ∃ c, c = classV n := ⟨_, rfl⟩
      rw [← hc] at CL n2 n3
      have c2 : (c == 0) = false := beq_eq_false_iff_ne.mpr n2
      have c3 : (c == 4) = false := beq_eq_false_iff_ne.mpr n3
      clear hm hm2 hit2 hbw2 hb hit n4 hc n2 n3
      go_wp2_with fail
      refine (CL.out _).mono ?_
      rintro e w' ⟨rfl, rfl⟩
      go_wp2_with fail
      refine (CR.out _).mono ?_
      rintro e w' ⟨rfl, rfl⟩
      go_wp2_with fail
      go_roundw
      case rel => exact ⟨k + 1, q + (enc n).length, by omega, hle, HN, HIt.out, HB2.out⟩
      case measure => rw [HM.out, HM2.out]; omega
    · have hnx : ∀ ty, (Instr.next (.pointer (some ⟨w1.heap.size, 0, none⟩)) true ty).run Try.prog wr = _ := fun ty => Lib.run_next_end_at wr w1.heap.size s q ty hit hlt
      go_wp2_with fail
      go_ret
      exact ⟨rfl, hb⟩
end Go.Proofs.Ytghimladdioajaa
