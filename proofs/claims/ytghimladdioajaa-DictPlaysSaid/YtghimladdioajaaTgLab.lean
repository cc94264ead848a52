/- Contracts over this seat's program: package term's plain, Blank's Good; the document's letter, digit, label. Every text (up to a megabyte). -/
import Derived.Test.YtghimladdioajaaTmClass
import Derived.Test.YtghimladdioajaaVtPlain
import Derived.Test.YtghimladdioajaaTgPlain
import Derived.Lib.TrimU
import Derived.Handy
namespace Go.Proofs.Ytghimladdioajaa
open Go Go.RowKit
set_option linter.unusedVariables false
set_option linter.unusedSimpArgs false
set_option maxRecDepth 100000
def isPl (n : Int) : Bool := decide (classV n = 1) || decide (classV n = 2)
theorem plainc_any (n : Int) (w : World) (n0 : -2147483648 ≤ n) (n1 : n ≤ 2147483647) : Calls Try.prog 83 #[.int .i32 n] w fun e w' => e = .returned (.bool (isPl n)) ∧ w' = w := by
  have CL := Lib.hid (fun w => class_any n w n0 n1)
  unfold isPl
  obtain ⟨c, hc⟩ : ∃ c, c = classV n := ⟨_, rfl⟩
  rw [← hc] at CL ⊢
  clear hc
  by_cases h1 : c = 1
  · subst h1
    go_enter Try.func83, Try.ntmps83
    go_wp2_with fail
    refine (CL.out _).mono ?_
    rintro e w' ⟨rfl, rfl⟩
    go_wp2_with fail
    go_ret
    exact ⟨rfl, rfl⟩
  · have b1 : (c == 1) = false := beq_eq_false_iff_ne.mpr h1
    by_cases h2 : c = 2
    · subst h2
      clear h1
      go_enter Try.func83, Try.ntmps83
      go_wp2_with fail
      refine (CL.out _).mono ?_
      rintro e w' ⟨rfl, rfl⟩
      go_wp2_with fail
      refine (CL.out _).mono ?_
      rintro e w' ⟨rfl, rfl⟩
      go_wp2_with fail
      go_ret
      exact ⟨rfl, rfl⟩
    · have b2 : (c == 2) = false := beq_eq_false_iff_ne.mpr h2
      rw [decide_eq_false h1, decide_eq_false h2]
      clear h1 h2
      go_enter Try.func83, Try.ntmps83
      go_wp2_with fail
      refine (CL.out _).mono ?_
      rintro e w' ⟨rfl, rfl⟩
      go_wp2_with fail
      refine (CL.out _).mono ?_
      rintro e w' ⟨rfl, rfl⟩
      go_wp2_with fail
      go_ret
      exact ⟨rfl, rfl⟩
theorem class_low {n : Int} (h0 : 0 ≤ n) (h1 : n < 128) : isPl n = (lowI n || digI n) ∧ decide (classV n = 1) = lowI n := by
  obtain ⟨m, rfl⟩ := Int.eq_ofNat_of_zero_le h0
  have : ∀ m : Nat, m < 128 → isPl (m : Int) = (lowI (m : Int) || digI (m : Int)) ∧ decide (classV (m : Int) = 1) = lowI (m : Int) := by decide +kernel
  exact this m (by omega)
theorem class_high {n : Int} (h : 128 ≤ n) : isPl n = false ∧ decide (classV n = 1) = false := by
  have h1 : classV n ≠ 1 ∧ classV n ≠ 2 := by unfold classV; repeat' split <;> omega
  unfold isPl
  rw [decide_eq_false h1.1, decide_eq_false h1.2]
  exact ⟨rfl, rfl⟩
theorem low_hi {n : Int} (h : 128 ≤ n) : lowI n = false ∧ digI n = false := ⟨decide_eq_false (by omega), decide_eq_false (by omega)⟩
/-- the class of what Go reads at a byte is that of the byte, if that is ASCII's; else it is no letter, no digit, no mark -/
theorem dec_pl (s : ByteArray) (q : Nat) (c : UInt8) (r : List UInt8) (h : s.data.toList.drop q = c :: r) :
    ∃ (v : Nat) (k : Nat), Utf8.decode s q = (v, k) ∧ (v : Int) ≤ 1114111 ∧ isPl v = (lowI (bI c) || digI (bI c)) ∧ decide (classV v = 1) = lowI (bI c) ∧ ((bI c < 128 ∧ (v : Int) = bI c ∧ k = 1) ∨ (128 ≤ bI c ∧ 128 ≤ (v : Int))) := by
  refine ⟨(Utf8.decode s q).1, (Utf8.decode s q).2, rfl, ?_⟩
  have hle := Lib.rune_le s q
  by_cases hb : c.toNat < 128
  · have e := dec_low s q c r h hb
    rw [e]
    have := class_low (n := (c.toNat : Int)) (by omega) (by omega)
    exact ⟨by show ((c.toNat : Nat) : Int) ≤ _; omega, this.1, this.2, .inl ⟨by unfold bI; omega, rfl, rfl⟩⟩
  · have e := dec_high s q c r h (by omega)
    have h1 := class_high (n := ((Utf8.decode s q).1 : Int)) (by omega)
    have h2 := low_hi (n := bI c) (by unfold bI; omega)
    rw [h1.1, h1.2, h2.1, h2.2]
    exact ⟨by omega, rfl, rfl, .inr ⟨by unfold bI; omega, by omega⟩⟩
theorem lab_step (L : List UInt8) (k : Nat) (c : UInt8) (h : L.drop k = c :: L.drop (k + 1)) : labA k (L.drop k) = (okL k c && labA (k + 1) (L.drop (k + 1))) := by
  conv => lhs; rw [h]
  rfl
theorem drop_at (s : ByteArray) (q : Nat) (h : q < s.size) : s.data.toList.drop q = (s[q]'h) :: s.data.toList.drop (q + 1) := by
  have hl : q < s.data.toList.length := by rw [← Lib.size_eq]; exact h
  exact List.drop_eq_getElem_cons hl
/-- what a label's byte is: how the code asks -/
theorem okL_cases (q : Nat) (c : UInt8) (p : Bool) (hp : p = (lowI (bI c) || digI (bI c))) :
    (okL q c = true ∧ p = true) ∨ (okL q c = true ∧ p = false ∧ q ≠ 0 ∧ bI c = 95) ∨ (okL q c = true ∧ p = false ∧ q ≠ 0 ∧ bI c = 45) ∨ (okL q c = false ∧ p = false ∧ q = 0) ∨ (okL q c = false ∧ p = false ∧ q ≠ 0 ∧ bI c ≠ 95 ∧ bI c ≠ 45) := by
  unfold okL
  rw [← hp]
  cases p with
  | true => exact .inl ⟨rfl, rfl⟩
  | false =>
    by_cases hq : q = 0
    · exact .inr (.inr (.inr (.inl ⟨by simp [hq], rfl, hq⟩)))
    · by_cases h1 : bI c = 95
      · exact .inr (.inl ⟨by simp [hq, h1], rfl, hq, h1⟩)
      · by_cases h2 : bI c = 45
        · exact .inr (.inr (.inl ⟨by simp [hq, h2], rfl, hq, h2⟩))
        · exact .inr (.inr (.inr (.inr ⟨by simp [hq, h1, h2], rfl, hq, h1, h2⟩)))
set_option maxHeartbeats 6400000 in
theorem blank_any (s : ByteArray) (w : World) (hs : s.size ≤ 1000000) : Calls Try.prog 103 #[.agg #[.string s]] w fun e w' => e = .returned (.bool (labV s.data.toList)) ∧ Below w.heap.size w w' := by
  obtain ⟨R, hR⟩ : ∃ R, R = labV s.data.toList := ⟨_, rfl⟩
  rw [← hR]
  have HR0 := Lib.hid hR
  clear hR
  have hs1 : (s.size : Int) ≤ 1000000 := by omega
  go_enter Try.func103, Try.ntmps103
  go_wp2_with fail
  go_loopw [] (fun wr => ∃ (q : Nat), q ≤ s.size ∧ (0 ≤ q) ∧ Hid (labA 0 s.data.toList = labA q (s.data.toList.drop q)) ∧ wr.heap[w.heap.size + 1]? = some (.stringIter s q) ∧ Below (w.heap.size + 1) (w.alloc (.cells #[.string s] 93)) wr)
    (fun wr => s.size - wr.iterPos (w.heap.size + 1))
  case atStart => exact ⟨0, by omega, by omega, Lib.hid rfl, (by have := World.iter_heap (w.alloc (.cells #[.string s] 93)) s 0; rw [show (w.alloc (.cells #[.string s] 93)).heap.size = w.heap.size + 1 from by simp] at this; exact this), (Below.refl _ _).alloc (by simp) _⟩
  case round =>
    obtain ⟨q, hq, _, HS, hit, hb⟩ := hrel
    have c0 : wr.cell? ⟨w.heap.size, 0, none⟩ = some (.string s) := (hb.cell (by simp)).trans (by simp [go_sem])
    by_cases hlt : q < s.size
    · have HD := Lib.hid (drop_at s q hlt)
      obtain ⟨c, hc⟩ : ∃ c, c = s[q]'hlt := ⟨_, rfl⟩
      rw [← hc] at HD
      obtain ⟨v, k, hdec, hvb, hpl, _, hv⟩ := dec_pl s q c _ HD.out
      have hnx : ∀ ty, (Instr.next (.pointer (some ⟨w.heap.size + 1, 0, none⟩)) true ty).run Try.prog wr = _ := fun ty => Lib.run_next_any_at wr (w.heap.size + 1) s q ty hit hlt
      rw [hdec] at hnx
      have PC := Lib.hid (fun w => plainc_any v w (by omega) (by omega))
      have hm : s.size - wr.iterPos (w.heap.size + 1) = s.size - q := by simp [World.iterPos, hit]
      have HM := Lib.hid hm
      have hcase := okL_cases q c (isPl v) hpl
      have hhi : 128 ≤ bI c → isPl v = false := fun h => by rw [hpl, (low_hi h).1, (low_hi h).2]; rfl
      obtain ⟨p, hp⟩ : ∃ p, p = isPl v := ⟨_, rfl⟩
      rw [← hp] at PC hcase hhi
      have HHI0 := Lib.hid hhi
      clear hhi
      clear hc hdec hpl hp hm
      have HHI : Hid (128 ≤ bI c → p = false) := HHI0
      rcases hcase with ⟨ho, rfl⟩ | ⟨ho, rfl, h0, h1⟩ | ⟨ho, rfl, h0, h1⟩ | ⟨ho, rfl, h0⟩ | ⟨ho, rfl, h0, h1, h2⟩
      · rcases hv with ⟨b1, b2, b3⟩ | ⟨b1, b2⟩
        · subst b3
          clear b2
          have HS2 : Hid (labA 0 s.data.toList = labA (q + 1) (s.data.toList.drop (q + 1))) := Lib.hid (by rw [HS.out, lab_step _ _ _ HD.out, ho, Bool.true_and])
          have hit2 := Lib.iterAt_heap wr (w.heap.size + 1) s q (q + 1) hit
          have HIt := Lib.hid hit2
          have hm2 : s.size - (wr.iterAt (w.heap.size + 1) s (q + 1)).iterPos (w.heap.size + 1) = s.size - (q + 1) := by simp [World.iterPos, hit2]
          have HM2 := Lib.hid hm2
          have HB2 := Lib.hid (Lib.below_iterAt hb (k := w.heap.size + 1) (by omega) s (q + 1))
          clear hm2 hit2 hb hit
          clear ho
          go_wp2_with fail
          refine (PC.out _).mono ?_
          rintro e w' ⟨rfl, rfl⟩
          go_wp2_with fail
          go_roundw
          case rel => exact ⟨q + 1, by omega, by omega, HS2, HIt.out, HB2.out⟩
          case measure => rw [HM.out, HM2.out]; omega
        · exact absurd (HHI.out b1) (by simp)
      · obtain ⟨b2, b3⟩ : (v : Int) = 95 ∧ k = 1 := by rcases hv with h | h <;> omega
        subst b3
        rw [b2] at hnx PC
        have HS2 : Hid (labA 0 s.data.toList = labA (q + 1) (s.data.toList.drop (q + 1))) := Lib.hid (by rw [HS.out, lab_step _ _ _ HD.out, ho, Bool.true_and])
        have hit2 := Lib.iterAt_heap wr (w.heap.size + 1) s q (q + 1) hit
        have HIt := Lib.hid hit2
        have hm2 : s.size - (wr.iterAt (w.heap.size + 1) s (q + 1)).iterPos (w.heap.size + 1) = s.size - (q + 1) := by simp [World.iterPos, hit2]
        have HM2 := Lib.hid hm2
        have HB2 := Lib.hid (Lib.below_iterAt hb (k := w.heap.size + 1) (by omega) s (q + 1))
        clear hm2 hit2 hb hit
        have g0 : ((q : Int) == 0) = false := beq_eq_false_iff_ne.mpr (by omega)
        clear ho b2 hv h0 h1
        go_wp2_with fail
        refine (PC.out _).mono ?_
        rintro e w' ⟨rfl, rfl⟩
        go_wp2_with fail
        go_roundw
        case rel => exact ⟨q + 1, by omega, by omega, HS2, HIt.out, HB2.out⟩
        case measure => rw [HM.out, HM2.out]; omega
      · obtain ⟨b2, b3⟩ : (v : Int) = 45 ∧ k = 1 := by rcases hv with h | h <;> omega
        subst b3
        rw [b2] at hnx PC
        have HS2 : Hid (labA 0 s.data.toList = labA (q + 1) (s.data.toList.drop (q + 1))) := Lib.hid (by rw [HS.out, lab_step _ _ _ HD.out, ho, Bool.true_and])
        have hit2 := Lib.iterAt_heap wr (w.heap.size + 1) s q (q + 1) hit
        have HIt := Lib.hid hit2
        have hm2 : s.size - (wr.iterAt (w.heap.size + 1) s (q + 1)).iterPos (w.heap.size + 1) = s.size - (q + 1) := by simp [World.iterPos, hit2]
        have HM2 := Lib.hid hm2
        have HB2 := Lib.hid (Lib.below_iterAt hb (k := w.heap.size + 1) (by omega) s (q + 1))
        clear hm2 hit2 hb hit
        have g0 : ((q : Int) == 0) = false := beq_eq_false_iff_ne.mpr (by omega)
        clear ho b2 hv h0 h1
        go_wp2_with fail
        refine (PC.out _).mono ?_
        rintro e w' ⟨rfl, rfl⟩
        go_wp2_with fail
        go_roundw
        case rel => exact ⟨q + 1, by omega, by omega, HS2, HIt.out, HB2.out⟩
        case measure => rw [HM.out, HM2.out]; omega
      · have g0 : ((q : Int) == 0) = true := by rw [h0]; rfl
        have HR : Hid (R = false) := Lib.hid (by rw [HR0.out]; unfold labV; rw [HS.out, lab_step _ _ _ HD.out, ho]; simp)
        have HB2 : Hid (Below w.heap.size w (wr.iterAt (w.heap.size + 1) s (q + k))) := Lib.hid (((Below.refl w.heap.size w).alloc (Nat.le_refl _) _).trans ((Lib.below_iterAt hb (k := w.heap.size + 1) (by omega) s (q + k)).mono (by simp)))
        clear hb hit
        clear ho hv h0
        go_wp2_with fail
        refine (PC.out _).mono ?_
        rintro e w' ⟨rfl, rfl⟩
        go_wp2_with fail
        go_ret
        exact ⟨by rw [HR.out]; rfl, HB2.out⟩
      · obtain ⟨g1, g2⟩ : (v : Int) ≠ 95 ∧ (v : Int) ≠ 45 := by rcases hv with h | h <;> omega
        have HR : Hid (R = false) := Lib.hid (by rw [HR0.out]; unfold labV; rw [HS.out, lab_step _ _ _ HD.out, ho]; simp)
        have HB2 : Hid (Below w.heap.size w (wr.iterAt (w.heap.size + 1) s (q + k))) := Lib.hid (((Below.refl w.heap.size w).alloc (Nat.le_refl _) _).trans ((Lib.below_iterAt hb (k := w.heap.size + 1) (by omega) s (q + k)).mono (by simp)))
        clear hb hit
        have g0 : ((q : Int) == 0) = false := beq_eq_false_iff_ne.mpr (by omega)
        have g3 : ((v : Int) != 95) = true := by simpa using g1
        have g4 : ((v : Int) != 45) = true := by simpa using g2
        generalize (v : Int) = n at *
        clear ho hv h0 h1 h2 g1 g2 hvb
        go_wp2_with fail
        refine (PC.out _).mono ?_
        rintro e w' ⟨rfl, rfl⟩
        go_wp2_with fail
        go_ret
        exact ⟨by rw [HR.out]; rfl, HB2.out⟩
    · have hnx : ∀ ty, (Instr.next (.pointer (some ⟨w.heap.size + 1, 0, none⟩)) true ty).run Try.prog wr = _ := fun ty => Lib.run_next_end_at wr (w.heap.size + 1) s q ty hit hlt
      have hall : labA 0 s.data.toList = true := by rw [HS.out, List.drop_eq_nil_of_le (by rw [← Lib.size_eq]; omega)]; rfl
      have HZ : Hid (Below w.heap.size w wr) := Lib.hid (((Below.refl w.heap.size w).alloc (Nat.le_refl _) _).trans (hb.mono (by simp)))
      have hlen : s.data.toList.length = s.size := (Lib.size_eq s).symm
      by_cases h0 : s.size = 0
      · have HR : Hid (R = false) := Lib.hid (by rw [HR0.out]; unfold labV; rw [decide_eq_false (by omega)]; rfl)
        obtain ⟨⟨l⟩⟩ := s
        obtain rfl : l = [] := List.eq_nil_of_length_eq_zero h0
        clear hall hlen h0 hs hs1 hb hit HS HR0
        go_wp2_with fail
        go_ret
        exact ⟨by rw [HR.out]; rfl, HZ.out⟩
      · have he : s.toList.isEmpty = false := by rw [Lib.toList_data, List.isEmpty_eq_false_iff]; intro h; rw [h] at hlen; simp at hlen; omega
        by_cases h1 : s.size ≤ 100
        · have HR : Hid (R = true) := Lib.hid (by rw [HR0.out]; unfold labV; rw [hall, decide_eq_true (by omega), decide_eq_true (by omega)]; rfl)
          have h2 : (s.size : Int) ≤ 100 := by omega
          clear hall hlen h0 h1 hs hs1 hb hit HS HR0
          go_wp2_with fail
          go_ret
          exact ⟨by rw [HR.out]; first | rfl | simp [*], HZ.out⟩
        · have HR : Hid (R = false) := Lib.hid (by rw [HR0.out]; unfold labV; rw [hall, decide_eq_false (show ¬ s.data.toList.length ≤ 100 by omega)]; simp)
          have h2 : ¬ (s.size : Int) ≤ 100 := by omega
          clear hall hlen h0 h1 hs hs1 hb hit HS HR0
          go_wp2_with fail
          go_ret
          exact ⟨by rw [HR.out]; first | rfl | simp [*], HZ.out⟩
theorem rletter_any (n : Int) (w : World) (h0 : 0 ≤ n) (h1 : n < 256) : Calls Try.prog 52 #[.int .u8 n] w fun e w' => e = .returned (.bool (lowI n)) ∧ w = w' := by
  unfold lowI
  go_enter Try.func52, Try.ntmps52
  go_wp2
  all_goals go_ret
  all_goals refine ⟨ret_bool ?_, rfl⟩
  all_goals first | rfl | (rw [Bool.eq_iff_iff]; simp; omega)
theorem rdigit_any (n : Int) (w : World) (h0 : 0 ≤ n) (h1 : n < 256) : Calls Try.prog 53 #[.int .u8 n] w fun e w' => e = .returned (.bool (digI n)) ∧ w = w' := by
  unfold digI
  go_enter Try.func53, Try.ntmps53
  go_wp2
  all_goals go_ret
  all_goals refine ⟨ret_bool ?_, rfl⟩
  all_goals first | rfl | (rw [Bool.eq_iff_iff]; simp; omega)
set_option maxHeartbeats 6400000 in
theorem rlabel_any (s : ByteArray) (w : World) (hs : s.size ≤ 1000000) : Calls Try.prog 41 #[.string s] w fun e w' => e = .returned (.bool (labV s.data.toList)) ∧ w = w' := by
  obtain ⟨R, hR⟩ : ∃ R, R = labV s.data.toList := ⟨_, rfl⟩
  rw [← hR]
  have HR0 := Lib.hid hR
  clear hR
  have hlen : s.data.toList.length = s.size := (Lib.size_eq s).symm
  have HL := Lib.hid hlen
  clear hlen
  by_cases h1 : s.size < 1
  · have HR : Hid (R = false) := Lib.hid (by rw [HR0.out]; unfold labV; rw [decide_eq_false (show ¬ 1 ≤ s.data.toList.length by rw [HL.out]; omega)]; rfl)
    have h2 : (s.size : Int) < 1 := by omega
    clear h1 hs
    go_enter Try.func41, Try.ntmps41
    go_wp2_with fail
    go_ret
    exact ⟨by rw [HR.out]; rfl, rfl⟩
  · by_cases h3 : 100 < s.size
    · have HR : Hid (R = false) := Lib.hid (by rw [HR0.out]; unfold labV; rw [decide_eq_false (show ¬ s.data.toList.length ≤ 100 by rw [HL.out]; omega)]; simp)
      have h2 : ¬ (s.size : Int) < 1 := by omega
      have h4 : (100 : Int) < s.size := by omega
      clear h1 h3 hs
      go_enter Try.func41, Try.ntmps41
      go_wp2_with fail
      go_ret
      exact ⟨by rw [HR.out]; rfl, rfl⟩
    · have h2 : ¬ (s.size : Int) < 1 := by omega
      have h4 : ¬ (100 : Int) < s.size := by omega
      go_enter Try.func41, Try.ntmps41
      go_wp2_with fail
      go_loop [3] (fun x => ∃ q : Nat, q ≤ s.size ∧ x = .int .i64 q ∧ Hid (labA 0 s.data.toList = labA q (s.data.toList.drop q))) (fun x => s.size - (intOf x).toNat)
      case atStart => exact ⟨0, by omega, rfl, Lib.hid rfl⟩
      case round =>
        obtain ⟨q, hq, rfl, HS⟩ := hrel
        by_cases hlt : q < s.size
        · have HD := Lib.hid (drop_at s q hlt)
          have hc8 : (s[q]'hlt).toNat < 256 := (s[q]'hlt).toNat_lt
          have LC := Lib.hid (fun w => rletter_any (bI (s[q]'hlt)) w (by unfold bI; omega) (by unfold bI; omega))
          have DC := Lib.hid (fun w => rdigit_any (bI (s[q]'hlt)) w (by unfold bI; omega) (by unfold bI; omega))
          have hcase := okL_cases q (s[q]'hlt) _ rfl
          obtain ⟨p1, hp1⟩ : ∃ p, p = lowI (bI (s[q]'hlt)) := ⟨_, rfl⟩
          obtain ⟨p2, hp2⟩ : ∃ p, p = digI (bI (s[q]'hlt)) := ⟨_, rfl⟩
          rw [← hp1, ← hp2] at hcase
          rw [← hp1] at LC
          rw [← hp2] at DC
          clear hp1 hp2
          unfold bI at LC DC hcase
          have b1 : (q : Int) < s.size := by omega
          rcases hcase with ⟨ho, hp⟩ | ⟨ho, hp, h0, h1⟩ | ⟨ho, hp, h0, h1⟩ | ⟨ho, hp, h0⟩ | ⟨ho, hp, h0, h1, h2⟩
          · have HS2 : Hid (labA 0 s.data.toList = labA (q + 1) (s.data.toList.drop (q + 1))) := Lib.hid (by rw [HS.out, lab_step _ _ _ HD.out, ho, Bool.true_and])
            clear ho
            cases p1 with
            | true =>
              go_wp2_with fail
              refine (LC.out _).mono ?_
              rintro e w' ⟨rfl, rfl⟩
              go_wp2_with fail
              go_round
              case rel => exact ⟨q + 1, by omega, by go_num, HS2⟩
              case measure => simp [intOf]; omega
            | false =>
              obtain rfl : p2 = true := by simpa using hp
              clear hp
              go_wp2_with fail
              refine (LC.out _).mono ?_
              rintro e w' ⟨rfl, rfl⟩
              go_wp2_with fail
              refine (DC.out _).mono ?_
              rintro e w' ⟨rfl, rfl⟩
              go_wp2_with fail
              go_round
              case rel => exact ⟨q + 1, by omega, by go_num, HS2⟩
              case measure => simp [intOf]; omega
          · have HS2 : Hid (labA 0 s.data.toList = labA (q + 1) (s.data.toList.drop (q + 1))) := Lib.hid (by rw [HS.out, lab_step _ _ _ HD.out, ho, Bool.true_and])
            obtain ⟨rfl, rfl⟩ : p1 = false ∧ p2 = false := by simpa using hp
            have g0 : ((q : Int) == 0) = false := beq_eq_false_iff_ne.mpr (by omega)
            have g1 : (((s[q]'hlt).toNat : Int) != 95) = false := by rw [h1]; rfl
            clear ho hp h0 h1
            go_wp2_with fail
            refine (LC.out _).mono ?_
            rintro e w' ⟨rfl, rfl⟩
            go_wp2_with fail
            refine (DC.out _).mono ?_
            rintro e w' ⟨rfl, rfl⟩
            go_wp2_with fail
            go_round
            case rel => exact ⟨q + 1, by omega, by go_num, HS2⟩
            case measure => simp [intOf]; omega
          · have HS2 : Hid (labA 0 s.data.toList = labA (q + 1) (s.data.toList.drop (q + 1))) := Lib.hid (by rw [HS.out, lab_step _ _ _ HD.out, ho, Bool.true_and])
            obtain ⟨rfl, rfl⟩ : p1 = false ∧ p2 = false := by simpa using hp
            have g0 : ((q : Int) == 0) = false := beq_eq_false_iff_ne.mpr (by omega)
            have g1 : (((s[q]'hlt).toNat : Int) != 95) = true := by rw [h1]; rfl
            have g2 : (((s[q]'hlt).toNat : Int) != 45) = false := by rw [h1]; rfl
            clear ho hp h0 h1
            go_wp2_with fail
            refine (LC.out _).mono ?_
            rintro e w' ⟨rfl, rfl⟩
            go_wp2_with fail
            refine (DC.out _).mono ?_
            rintro e w' ⟨rfl, rfl⟩
            go_wp2_with fail
            go_round
            case rel => exact ⟨q + 1, by omega, by go_num, HS2⟩
            case measure => simp [intOf]; omega
          · have HR : Hid (R = false) := Lib.hid (by rw [HR0.out]; unfold labV; rw [HS.out, lab_step _ _ _ HD.out, ho]; simp)
            obtain ⟨rfl, rfl⟩ : p1 = false ∧ p2 = false := by simpa using hp
            have g0 : ((q : Int) == 0) = true := by rw [h0]; rfl
            clear ho hp h0
            go_wp2_with fail
            refine (LC.out _).mono ?_
            rintro e w' ⟨rfl, rfl⟩
            go_wp2_with fail
            refine (DC.out _).mono ?_
            rintro e w' ⟨rfl, rfl⟩
            go_wp2_with fail
            go_ret
            exact ⟨by rw [HR.out]; rfl, rfl⟩
          · have HR : Hid (R = false) := Lib.hid (by rw [HR0.out]; unfold labV; rw [HS.out, lab_step _ _ _ HD.out, ho]; simp)
            obtain ⟨rfl, rfl⟩ : p1 = false ∧ p2 = false := by simpa using hp
            have g0 : ((q : Int) == 0) = false := beq_eq_false_iff_ne.mpr (by omega)
            have g1 : (((s[q]'hlt).toNat : Int) != 95) = true := by simpa using h1
            have g2 : (((s[q]'hlt).toNat : Int) != 45) = true := by simpa using h2
            clear ho hp h0 h1 h2
            go_wp2_with fail
            refine (LC.out _).mono ?_
            rintro e w' ⟨rfl, rfl⟩
            go_wp2_with fail
            refine (DC.out _).mono ?_
            rintro e w' ⟨rfl, rfl⟩
            go_wp2_with fail
            go_ret
            exact ⟨by rw [HR.out]; rfl, rfl⟩
        · have hall : labA 0 s.data.toList = true := by rw [HS.out, List.drop_eq_nil_of_le (by rw [← Lib.size_eq]; omega)]; rfl
          have HR : Hid (R = true) := Lib.hid (by rw [HR0.out]; unfold labV; rw [hall, decide_eq_true (show 1 ≤ s.data.toList.length by rw [HL.out]; omega), decide_eq_true (show s.data.toList.length ≤ 100 by rw [HL.out]; omega)]; rfl)
          clear hall
          go_wp2_with fail
          go_ret
          exact ⟨by rw [HR.out]; rfl, rfl⟩
end Go.Proofs.Ytghimladdioajaa
