/- Contracts over this seat's program: strings.ContainsRune in a short text of ASCII, at every sign. -/
import Derived.Test.YtghimladdioajaaTmIri
import Derived.Test.YtghimladdioajaaTgLab
import Derived.Laws.Runes
import Derived.Deep.QuietTactic
import Derived.BigQuiet
namespace Go.Proofs.Ytghimladdioajaa
open Go Go.RowKit
set_option linter.unusedVariables false
set_option linter.unusedSimpArgs false
set_option maxRecDepth 100000
theorem enc_two {n : Int} (h0 : 128 ≤ n) (h1 : n < 2048) : ∃ a b : UInt8, Utf8.encode n = ⟨#[a, b]⟩ ∧ 128 ≤ b.toNat := by
  have hv : Utf8.valid n = true := by rw [validRune_eq]; exact decide_eq_true (by omega)
  refine ⟨UInt8.ofNat (192 + n.toNat / 64), UInt8.ofNat (128 + n.toNat % 64), ?_, by simp; omega⟩
  unfold Utf8.encode
  simp only [hv, if_true]
  rw [if_neg (by omega), if_pos (by omega)]
theorem enc_three {n : Int} (hs : SignP n) (h0 : 2048 ≤ n) (h1 : n < 65536) : ∃ a b c : UInt8, Utf8.encode n = ⟨#[a, b, c]⟩ ∧ 128 ≤ c.toNat := by
  have hv : Utf8.valid n = true := by rw [validRune_eq]; exact decide_eq_true (by unfold SignP at hs; omega)
  refine ⟨UInt8.ofNat (224 + n.toNat / 4096), UInt8.ofNat (128 + n.toNat / 64 % 64), UInt8.ofNat (128 + n.toNat % 64), ?_, by simp; omega⟩
  unfold Utf8.encode
  simp only [hv, if_true]
  rw [if_neg (by omega), if_neg (by omega), if_pos (by omega)]
theorem enc_four {n : Int} (hs : SignP n) (h0 : 65536 ≤ n) : ∃ a b c d : UInt8, Utf8.encode n = ⟨#[a, b, c, d]⟩ ∧ 128 ≤ d.toNat := by
  have hv : Utf8.valid n = true := by rw [validRune_eq]; exact decide_eq_true (by unfold SignP at hs; omega)
  refine ⟨UInt8.ofNat (240 + n.toNat / 262144), UInt8.ofNat (128 + n.toNat / 4096 % 64), UInt8.ofNat (128 + n.toNat / 64 % 64), UInt8.ofNat (128 + n.toNat % 64), ?_, by simp; omega⟩
  unfold Utf8.encode
  simp only [hv, if_true]
  rw [if_neg (by omega), if_neg (by omega), if_neg (by omega)]
theorem byte_hi (F : ByteArray) (hF : ∀ b ∈ F.data.toList, b.toNat < 128) (a e : Nat) (b : UInt8) (hb : 128 ≤ b.toNat) : Lib.indexByte (F.extract a e).data.toList b < 0 := by
  have h1 := Lib.indexByte_ge (F.extract a e).data.toList b
  by_cases h3 : Lib.indexByte (F.extract a e).data.toList b = -1
  · omega
  · obtain ⟨o, ho⟩ : ∃ o : Nat, Lib.indexByte (F.extract a e).data.toList b = o := ⟨(Lib.indexByte (F.extract a e).data.toList b).toNat, by omega⟩
    have := hF b (mem_extract (List.mem_of_getElem? (Lib.indexByte_some ho).1))
    omega
theorem irune_2 (F : ByteArray) (n : Int) (w : World) (hF : ∀ b ∈ F.data.toList, b.toNat < 128) (h4 : 4 ≤ F.size) (h1000 : F.size ≤ 1000) (hs : SignP n) (hn : 128 ≤ n) (hne : n ≠ 65533) (a b : UInt8) (he : Utf8.encode n = ⟨#[a, b]⟩) (hl : 128 ≤ b.toNat) :
    Calls Try.prog 87 #[.string F, .int .i32 n] w fun e w' => e = .returned (.int .i64 (-1)) ∧ Below w.heap.size w w' := by
  have g0 : ¬ n < 128 := by omega
  have g1 : (n == 65533) = false := beq_eq_false_iff_ne.mpr hne
  have HV := Lib.hid (valid_yes hs)
  have hb : 1 < F.size := by omega
  have hfb : (F[1]'hb).toNat < 128 := hF _ (by exact Array.getElem_mem_toList (xs := F.data) hb)
  have hb2 : 1 < (⟨#[a, b]⟩ : ByteArray).size := by show 1 < 2; omega
  have g2 : (((F[1]'hb).toNat : Int) != (((⟨#[a, b]⟩ : ByteArray)[1]'hb2).toNat : Int)) = true := by rw [bne_iff_ne]; show ((F[1]'hb).toNat : Int) ≠ (b.toNat : Int); omega
  have hx := byte_hi F hF 2 F.size b hl
  have IB : Hid (∀ w, Calls Try.prog 79 #[.string (F.extract 2 F.size), .int .u8 (b.toNat : Int)] w fun e w' => e = .returned (.int .i64 (Lib.indexByte (F.extract 2 F.size).data.toList b)) ∧ w' = w) := Lib.hid (fun w => by
    have := Try.strings_IndexByte (F.extract 2 F.size) (b.toNat : Int) w
    simpa using this)
  obtain ⟨X, hX⟩ : ∃ X, X = Lib.indexByte (F.extract 2 F.size).data.toList b := ⟨_, rfl⟩
  rw [← hX] at hx IB
  have gb0 : (0 : Int) ≤ 1 := by omega
  have gb1 : (1 : Int) < (F.size : Int) := by omega
  have hk : 2 ≤ F.size := by omega
  have hsl : ∀ w, (Instr.slice 9 (.string F) (some (.int .i64 2)) none none).run Try.prog w = .ok (.string (F.extract 2 F.size)) w := fun w => by
    have h1 : (0 : Int) ≤ 2 := by omega
    have h2 : (2 : Int) ≤ (F.size : Int) := by omega
    simp [go_sem, hk, h1, h2]
  clear hk
  have hwr : IntKind.i64.wrap 2 = 2 := by decide
  clear hF hne hs hX hfb
  go_enter Try.func87, Try.ntmps87
  go_wp2_with fail
  refine (Try.utf8_ValidRune n _).mono ?_
  rintro e w' ⟨rfl, rfl⟩
  rw [HV.out]
  go_wp2_with fail
  go_step3
  go_wp2_with fail
  go_loopw [9] (fun i wr => i = .int .i64 1 ∧ wr = w') (fun _ _ => 0)
  case atStart => exact ⟨by first | rfl | go_num, rfl⟩
  case round =>
    obtain ⟨rfl, rfl⟩ := hrel
    go_wp2_with fail
    go_step3
    go_wp2_with fail
    go_quiet (fail)
    go_wp2_with fail
    obtain ⟨wg, hwg⟩ : ∃ wg, wg = wr.drewN nq := ⟨_, rfl⟩
    rw [← hwg]
    have HWG : Hid (Below wr.heap.size wr wg) := Lib.hid (by rw [hwg]; exact below_drewN (Below.refl _ _) _)
    clear hwg
    go_quiet ((go_at_call 79; exact Calls.quiet_of_same (IB.out _)))
    go_wp2_with fail
    simp (config := { zetaDelta := true }) only [Exit.noGoto, Exit.inBlock, Exit.then]
    go_ret
    exact ⟨rfl, below_drewN HWG.out _⟩
theorem irune_3 (F : ByteArray) (n : Int) (w : World) (hF : ∀ b ∈ F.data.toList, b.toNat < 128) (h4 : 4 ≤ F.size) (h1000 : F.size ≤ 1000) (hs : SignP n) (hn : 128 ≤ n) (hne : n ≠ 65533) (a b c : UInt8) (he : Utf8.encode n = ⟨#[a, b, c]⟩) (hl : 128 ≤ c.toNat) :
    Calls Try.prog 87 #[.string F, .int .i32 n] w fun e w' => e = .returned (.int .i64 (-1)) ∧ Below w.heap.size w w' := by
  have g0 : ¬ n < 128 := by omega
  have g1 : (n == 65533) = false := beq_eq_false_iff_ne.mpr hne
  have HV := Lib.hid (valid_yes hs)
  have hb : 2 < F.size := by omega
  have hfb : (F[2]'hb).toNat < 128 := hF _ (by exact Array.getElem_mem_toList (xs := F.data) hb)
  have hb2 : 2 < (⟨#[a, b, c]⟩ : ByteArray).size := by show 2 < 3; omega
  have g2 : (((F[2]'hb).toNat : Int) != (((⟨#[a, b, c]⟩ : ByteArray)[2]'hb2).toNat : Int)) = true := by rw [bne_iff_ne]; show ((F[2]'hb).toNat : Int) ≠ (c.toNat : Int); omega
  have hx := byte_hi F hF 3 F.size c hl
  have IB : Hid (∀ w, Calls Try.prog 79 #[.string (F.extract 3 F.size), .int .u8 (c.toNat : Int)] w fun e w' => e = .returned (.int .i64 (Lib.indexByte (F.extract 3 F.size).data.toList c)) ∧ w' = w) := Lib.hid (fun w => by
    have := Try.strings_IndexByte (F.extract 3 F.size) (c.toNat : Int) w
    simpa using this)
  obtain ⟨X, hX⟩ : ∃ X, X = Lib.indexByte (F.extract 3 F.size).data.toList c := ⟨_, rfl⟩
  rw [← hX] at hx IB
  have gb0 : (0 : Int) ≤ 2 := by omega
  have gb1 : (2 : Int) < (F.size : Int) := by omega
  have hk : 3 ≤ F.size := by omega
  have hsl : ∀ w, (Instr.slice 9 (.string F) (some (.int .i64 3)) none none).run Try.prog w = .ok (.string (F.extract 3 F.size)) w := fun w => by
    have h1 : (0 : Int) ≤ 3 := by omega
    have h2 : (3 : Int) ≤ (F.size : Int) := by omega
    simp [go_sem, hk, h1, h2]
  clear hk
  have hwr : IntKind.i64.wrap 3 = 3 := by decide
  clear hF hne hs hX hfb
  go_enter Try.func87, Try.ntmps87
  go_wp2_with fail
  refine (Try.utf8_ValidRune n _).mono ?_
  rintro e w' ⟨rfl, rfl⟩
  rw [HV.out]
  go_wp2_with fail
  go_step3
  go_wp2_with fail
  go_loopw [9] (fun i wr => i = .int .i64 2 ∧ wr = w') (fun _ _ => 0)
  case atStart => exact ⟨by first | rfl | go_num, rfl⟩
  case round =>
    obtain ⟨rfl, rfl⟩ := hrel
    go_wp2_with fail
    go_step3
    go_wp2_with fail
    go_quiet (fail)
    go_wp2_with fail
    obtain ⟨wg, hwg⟩ : ∃ wg, wg = wr.drewN nq := ⟨_, rfl⟩
    rw [← hwg]
    have HWG : Hid (Below wr.heap.size wr wg) := Lib.hid (by rw [hwg]; exact below_drewN (Below.refl _ _) _)
    clear hwg
    go_quiet ((go_at_call 79; exact Calls.quiet_of_same (IB.out _)))
    go_wp2_with fail
    simp (config := { zetaDelta := true }) only [Exit.noGoto, Exit.inBlock, Exit.then]
    go_ret
    exact ⟨rfl, below_drewN HWG.out _⟩
theorem irune_4 (F : ByteArray) (n : Int) (w : World) (hF : ∀ b ∈ F.data.toList, b.toNat < 128) (h4 : 4 ≤ F.size) (h1000 : F.size ≤ 1000) (hs : SignP n) (hn : 128 ≤ n) (hne : n ≠ 65533) (a b c d : UInt8) (he : Utf8.encode n = ⟨#[a, b, c, d]⟩) (hl : 128 ≤ d.toNat) :
    Calls Try.prog 87 #[.string F, .int .i32 n] w fun e w' => e = .returned (.int .i64 (-1)) ∧ Below w.heap.size w w' := by
  have g0 : ¬ n < 128 := by omega
  have g1 : (n == 65533) = false := beq_eq_false_iff_ne.mpr hne
  have HV := Lib.hid (valid_yes hs)
  have hb : 3 < F.size := by omega
  have hfb : (F[3]'hb).toNat < 128 := hF _ (by exact Array.getElem_mem_toList (xs := F.data) hb)
  have hb2 : 3 < (⟨#[a, b, c, d]⟩ : ByteArray).size := by show 3 < 4; omega
  have g2 : (((F[3]'hb).toNat : Int) != (((⟨#[a, b, c, d]⟩ : ByteArray)[3]'hb2).toNat : Int)) = true := by rw [bne_iff_ne]; show ((F[3]'hb).toNat : Int) ≠ (d.toNat : Int); omega
  have hx := byte_hi F hF 4 F.size d hl
  have IB : Hid (∀ w, Calls Try.prog 79 #[.string (F.extract 4 F.size), .int .u8 (d.toNat : Int)] w fun e w' => e = .returned (.int .i64 (Lib.indexByte (F.extract 4 F.size).data.toList d)) ∧ w' = w) := Lib.hid (fun w => by
    have := Try.strings_IndexByte (F.extract 4 F.size) (d.toNat : Int) w
    simpa using this)
  obtain ⟨X, hX⟩ : ∃ X, X = Lib.indexByte (F.extract 4 F.size).data.toList d := ⟨_, rfl⟩
  rw [← hX] at hx IB
  have gb0 : (0 : Int) ≤ 3 := by omega
  have gb1 : (3 : Int) < (F.size : Int) := by omega
  have hk : 4 ≤ F.size := by omega
  have hsl : ∀ w, (Instr.slice 9 (.string F) (some (.int .i64 4)) none none).run Try.prog w = .ok (.string (F.extract 4 F.size)) w := fun w => by
    have h1 : (0 : Int) ≤ 4 := by omega
    have h2 : (4 : Int) ≤ (F.size : Int) := by omega
    simp [go_sem, hk, h1, h2]
  clear hk
  have hwr : IntKind.i64.wrap 4 = 4 := by decide
  clear hF hne hs hX hfb
  go_enter Try.func87, Try.ntmps87
  go_wp2_with fail
  refine (Try.utf8_ValidRune n _).mono ?_
  rintro e w' ⟨rfl, rfl⟩
  rw [HV.out]
  go_wp2_with fail
  go_step3
  go_wp2_with fail
  go_loopw [9] (fun i wr => i = .int .i64 3 ∧ wr = w') (fun _ _ => 0)
  case atStart => exact ⟨by first | rfl | go_num, rfl⟩
  case round =>
    obtain ⟨rfl, rfl⟩ := hrel
    go_wp2_with fail
    go_step3
    go_wp2_with fail
    go_quiet (fail)
    go_wp2_with fail
    obtain ⟨wg, hwg⟩ : ∃ wg, wg = wr.drewN nq := ⟨_, rfl⟩
    rw [← hwg]
    have HWG : Hid (Below wr.heap.size wr wg) := Lib.hid (by rw [hwg]; exact below_drewN (Below.refl _ _) _)
    clear hwg
    go_quiet ((go_at_call 79; exact Calls.quiet_of_same (IB.out _)))
    go_wp2_with fail
    simp (config := { zetaDelta := true }) only [Exit.noGoto, Exit.inBlock, Exit.then]
    go_ret
    exact ⟨rfl, below_drewN HWG.out _⟩
theorem irune_bad (F : ByteArray) (w : World) (hF : ∀ b ∈ F.data.toList, b.toNat < 128) (h1000 : F.size ≤ 1000) :
    Calls Try.prog 87 #[.string F, .int .i32 65533] w fun e w' => e = .returned (.int .i64 (-1)) ∧ Below w.heap.size w w' := by
  have HF := Lib.hid hF
  clear hF
  go_enter Try.func87, Try.ntmps87
  go_wp2_with fail
  go_loopw [] (fun wr => ∃ q : Nat, q ≤ F.size ∧ wr.heap[w.heap.size]? = some (.stringIter F q) ∧ Below w.heap.size w wr) (fun wr => F.size - wr.iterPos w.heap.size)
  case atStart => exact ⟨0, by omega, World.iter_heap w F 0, (Below.refl _ w).alloc (Nat.le_refl _) _⟩
  case round =>
    obtain ⟨q, hq, hit, hb⟩ := hrel
    by_cases hlt : q < F.size
    · have HD := drop_at F q hlt
      have hfb : (F[q]'hlt).toNat < 128 := HF.out _ (Array.getElem_mem_toList (xs := F.data) hlt)
      have hdec := dec_low F q (F[q]'hlt) _ HD hfb
      have hnx : ∀ ty, (Instr.next (.pointer (some ⟨w.heap.size, 0, none⟩)) true ty).run Try.prog wr = _ := fun ty => Lib.run_next_any_at wr w.heap.size F q ty hit hlt
      rw [hdec] at hnx
      have g1 : (((F[q]'hlt).toNat : Int) == 65533) = false := by rw [beq_eq_false_iff_ne]; omega
      have hit2 := Lib.iterAt_heap wr w.heap.size F q (q + 1) hit
      have HIt := Lib.hid hit2
      have HB2 := Lib.hid (Lib.below_iterAt hb (k := w.heap.size) (Nat.le_refl _) F (q + 1))
      have HM := Lib.hid (show F.size - wr.iterPos w.heap.size = F.size - q by simp [World.iterPos, hit])
      have HM2 := Lib.hid (show F.size - (wr.iterAt w.heap.size F (q + 1)).iterPos w.heap.size = F.size - (q + 1) by simp [World.iterPos, hit2])
      clear hit2 hb hit HD hdec hfb
      go_wp2_with fail
      go_roundw
      case rel => exact ⟨q + 1, by omega, HIt.out, HB2.out⟩
      case measure => rw [HM.out, HM2.out]; omega
    · have hnx : ∀ ty, (Instr.next (.pointer (some ⟨w.heap.size, 0, none⟩)) true ty).run Try.prog wr = _ := fun ty => Lib.run_next_end_at wr w.heap.size F q ty hit hlt
      go_wp2_with fail
      go_ret
      exact ⟨rfl, hb⟩
theorem irune_high (F : ByteArray) (n : Int) (w : World) (hF : ∀ b ∈ F.data.toList, b.toNat < 128) (h4 : 4 ≤ F.size) (h1000 : F.size ≤ 1000) (hs : SignP n) (hn : 128 ≤ n) :
    Calls Try.prog 87 #[.string F, .int .i32 n] w fun e w' => e = .returned (.int .i64 (-1)) ∧ Below w.heap.size w w' := by
  by_cases hne : n = 65533
  · subst hne
    exact irune_bad F w hF h1000
  · rcases (by omega : n < 2048 ∨ (2048 ≤ n ∧ n < 65536) ∨ 65536 ≤ n) with h | ⟨h, h'⟩ | h
    · obtain ⟨a, b, he, hl⟩ := enc_two hn h
      exact irune_2 F n w hF h4 h1000 hs hn hne a b he hl
    · obtain ⟨a, b, c, he, hl⟩ := enc_three hs h h'
      exact irune_3 F n w hF h4 h1000 hs hn hne a b c he hl
    · obtain ⟨a, b, c, d, he, hl⟩ := enc_four hs h
      exact irune_4 F n w hF h4 h1000 hs hn hne a b c d he hl
theorem crune_high (F : ByteArray) (n : Int) (w : World) (hF : ∀ b ∈ F.data.toList, b.toNat < 128) (h4 : 4 ≤ F.size) (h1000 : F.size ≤ 1000) (hs : SignP n) (hn : 128 ≤ n) :
    Calls Try.prog 81 #[.string F, .int .i32 n] w fun e w' => e = .returned (.bool false) ∧ Below w.heap.size w w' := by
  have IC := Lib.hid (fun w => irune_high F n w hF h4 h1000 hs hn)
  clear hF hs hn
  go_enter Try.func81, Try.ntmps81
  go_wp2_with fail
  refine (IC.out _).mono ?_
  rintro e w1 ⟨rfl, hb⟩
  go_wp2_with fail
  go_ret
  exact ⟨rfl, hb⟩
def forbL : List Int := [60, 62, 34, 123, 125, 124, 94, 96, 92]
theorem forb_low {n : Int} (h0 : 0 ≤ n) (h1 : n < 128) : decide (0 ≤ Lib.indexByte forbB.data.toList n.toNat.toUInt8) = forbL.contains n := by
  obtain ⟨m, rfl⟩ := Int.eq_ofNat_of_zero_le h0
  have : ∀ m : Nat, m < 128 → decide (0 ≤ Lib.indexByte forbB.data.toList m.toUInt8) = forbL.contains (m : Int) := by decide +kernel
  exact this m (by omega)
theorem forb_high {n : Int} (h : 128 ≤ n) : forbL.contains n = false := by
  unfold forbL
  simp
  omega
theorem crune_all (n : Int) (w : World) (hs : SignP n) : Calls Try.prog 81 #[.string ⟨#[60, 62, 34, 123, 125, 124, 94, 96, 92]⟩, .int .i32 n] w fun e w' => e = .returned (.bool (forbL.contains n)) ∧ Below w.heap.size w w' := by
  by_cases h : n < 128
  · have h0 : 0 ≤ n := by unfold SignP at hs; omega
    have := Try.strings_ContainsRune_ascii forbB n w h0 h
    rw [forb_low h0 h] at this
    refine this.mono ?_
    rintro e w' ⟨rfl, rfl⟩
    exact ⟨rfl, Below.refl _ _⟩
  · rw [forb_high (by omega)]
    exact crune_high forbB n w (by decide) (by decide) (by decide) hs (by omega)
end Go.Proofs.Ytghimladdioajaa
