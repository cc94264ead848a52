/- The law ValueNoughts: its walk. Every integer, and any noughts ahead. -/
import Derived.Test.YtfpelhacbmggeaaDoorVtTexts
namespace Go.Proofs.YtfpelhacbmggeaaDoor
open Go Go.RowKit
set_option linter.unusedVariables false
theorem nP_of (l : List UInt8) (n : Int) (h : isNum l = true ∧ numT l = n) (n0 : -9223372036854775808 ≤ n) (n1 : n ≤ 9223372036854775807) : nP l = n ∧ eP l = 0 := by
  have hf : fits n = true := (fits_iff n).2 ⟨n0, n1⟩
  unfold nP eP
  rw [h.1, h.2, hf]
  exact ⟨rfl, rfl⟩
theorem noughts_succ (k : Nat) : (⟨(List.replicate k (48 : UInt8)).toArray⟩ : ByteArray) ++ ⟨#[48]⟩ = ⟨(List.replicate (k + 1) (48 : UInt8)).toArray⟩ := by
  rw [List.replicate_succ']
  exact bytes_add _ [48]
theorem size_list (l : List UInt8) : (⟨l.toArray⟩ : ByteArray).size = l.length := by
  show l.toArray.size = _
  simp
set_option maxRecDepth 100000 in
set_option maxHeartbeats 1600000 in
theorem noughts_walk (n k : Int) (w : World) (ht : TabV w) (hv : ErrV w) (n0 : -9223372036854775808 ≤ n) (n1 : n ≤ 9223372036854775807) (k0 : 0 ≤ k) (k1 : k ≤ 255) :
    Calls Tryd.prog 4 #[.int .i64 n, .int .u8 k] w fun e w' => e = .returned (.bool true) ∧ Below w.heap.size w w' := by
  have HN60 := Lib.hid (n_60 n n0 n1)
  have HTV := Lib.hid (fun w' (hb : Below w.heap.size w w') => ht.below hb)
  have HEV := Lib.hid (fun w' (hb : Below w.heap.size w w') => hv.below hb)
  obtain ⟨T, hT⟩ : ∃ T : ByteArray, T = ⟨(Lib.itoa n).toArray⟩ := ⟨_, rfl⟩
  have hTL : T.data.toList = Lib.itoa n := by rw [hT]
  have hTS : T.size ≤ 21 := by rw [Lib.size_eq, hTL]; exact Lib.itoa_length_le n n0 n1
  have HT := Lib.hid hT
  have HTL := Lib.hid hTL
  obtain ⟨m, hm⟩ : ∃ m : Nat, (m : Int) = k % 40 := ⟨(k % 40).toNat, by omega⟩
  have hm40 : m ≤ 39 := by omega
  clear hT hTL ht hv
  go_enter Tryd.func4, Tryd.ntmps4
  go_wp2_with fail
  refine (awake_both _).mono ?_
  rintro e w1 ⟨rfl, _, z⟩
  go_wp2_with fail
  refine (of_any n _ n0 n1).mono ?_
  rintro e w2 ⟨r2, rfl, hr2, hb2⟩
  have HZ := Lib.hid (z.trans (hb2.mono z.size))
  have HR2 := Lib.hid hr2
  obtain ⟨a2, c2, ds2, rfl, _⟩ := big_parts hr2
  clear hb2 hr2 z
  go_wp2_with fail
  refine (text_dig n _ _ HN60.out HR2.out).mono ?_
  rintro e w3 ⟨rfl, hb3⟩
  replace HZ := Lib.hid (HZ.out.trans (hb3.mono HZ.out.size))
  clear hb3 HR2
  rw [← HT.out]
  go_wp2_with fail
  rw [← hm]
  clear hm
  go_loopw [6, 17] (fun sv x wr => ∃ (j : Nat) (U : ByteArray), j ≤ m ∧ x = .int .u8 j ∧ sv = .string U ∧ U.size ≤ j ∧ Hid (U = ⟨(List.replicate j (48 : UInt8)).toArray⟩) ∧ wr = w3) (fun _ x _ => m - (intOf x).toNat)
  case atStart => exact ⟨0, ⟨#[]⟩, by omega, rfl, rfl, by show (#[] : Array UInt8).size ≤ _; simp, Lib.hid rfl, rfl⟩
  case round =>
    obtain ⟨j, U, hj, rfl, rfl, hU, HU, rfl⟩ := hrel
    by_cases hlt : j < m
    · obtain ⟨U2, hU2⟩ : ∃ U2 : ByteArray, U2 = U ++ ⟨#[48]⟩ := ⟨_, rfl⟩
      have g9 : ∀ w : World, (Op.stringOp .add U ⟨#[48]⟩).run Tryd.prog w = .ok (.string U2) w := fun w => by rw [hU2]; exact run_string_add w _ _ (by omega) (by show 1 ≤ _; omega)
      have hs2 : U2.size ≤ j + 1 := by rw [hU2, ByteArray.size_append]; show U.size + 1 ≤ _; omega
      have HU2 : Hid (U2 = ⟨(List.replicate (j + 1) (48 : UInt8)).toArray⟩) := Lib.hid (by rw [hU2, HU.out]; exact noughts_succ j)
      have hw : IntKind.u8.wrap ((j : Int) + 1) = (j : Int) + 1 := IntWalk.u8_in _ ⟨by omega, by omega⟩
      have hlt2 : decide ((j : Int) < m) = true := by simpa using hlt
      clear hU2
      go_wp2_with fail
      go_roundw
      case rel => exact ⟨j + 1, U2, by omega, by go_num, rfl, hs2, HU2, by first | rfl | trivial⟩
      case measure => simp [intOf]; omega
    · obtain rfl : j = m := by omega
      have hlt2 : decide ((j : Int) < j) = false := by simp
      by_cases hneg : n < 0
      · obtain ⟨S1, hS1⟩ : ∃ S1 : ByteArray, S1 = (⟨#[43]⟩ : ByteArray) ++ U := ⟨_, rfl⟩
        obtain ⟨S2, hS2⟩ : ∃ S2 : ByteArray, S2 = S1 ++ T := ⟨_, rfl⟩
        obtain ⟨S3, hS3⟩ : ∃ S3 : ByteArray, S3 = (⟨#[45]⟩ : ByteArray) ++ U := ⟨_, rfl⟩
        obtain ⟨S4, hS4⟩ : ∃ S4 : ByteArray, S4 = S3 ++ T.extract 1 T.size := ⟨_, rfl⟩
        have s1 : S1.size ≤ 60 := by rw [hS1, ByteArray.size_append]; show 1 + U.size ≤ _; omega
        have s3 : S3.size ≤ 60 := by rw [hS3, ByteArray.size_append]; show 1 + U.size ≤ _; omega
        have s2 : S2.size ≤ 90 := by rw [hS2, ByteArray.size_append]; omega
        have s4 : S4.size ≤ 90 := by rw [hS4, ByteArray.size_append, ByteArray.size_extract]; omega
        have g1 : ∀ w : World, (Op.stringOp .add ⟨#[43]⟩ U).run Tryd.prog w = .ok (.string S1) w := fun w => by rw [hS1]; exact run_string_add w _ _ (by show 1 ≤ _; omega) (by omega)
        have g2 : ∀ w : World, (Op.stringOp .add S1 T).run Tryd.prog w = .ok (.string S2) w := fun w => by rw [hS2]; exact run_string_add w _ _ (by omega) (by omega)
        have g3 : ∀ w : World, (Op.stringOp .add ⟨#[45]⟩ U).run Tryd.prog w = .ok (.string S3) w := fun w => by rw [hS3]; exact run_string_add w _ _ (by show 1 ≤ _; omega) (by omega)
        have g4 : ∀ w : World, (Op.stringOp .add S3 (T.extract 1 T.size)).run Tryd.prog w = .ok (.string S4) w := fun w => by rw [hS4]; exact run_string_add w _ _ (by omega) (by rw [ByteArray.size_extract]; omega)
        have hT1 : 1 ≤ T.size := by
          rw [Lib.size_eq, HTL.out]
          have := (dec_all n.natAbs).2.2
          unfold Lib.itoa
          rw [if_pos hneg]; simp
        have hSL : S4.data.toList = 45 :: (List.replicate j 48 ++ (Lib.itoa n).drop 1) := by
          rw [hS4, hS3, HU.out]
          simp only [ByteArray.data_append, Array.toList_append, Lib.extract_data, HTL.out]
          rw [List.take_of_length_le (by rw [Lib.size_eq, HTL.out]; simp)]
          rfl
        have hP := nP_of _ n (minus_num n j hneg) n0 n1
        have PA := Lib.hid (fun w hv => parse_any S4 (by omega) w hv)
        rw [hSL, hP.1, hP.2] at PA
        clear hS1 hS2 hS3 hS4 hSL hP
        go_wp2_with fail
        refine (PA.out _ (HEV.out _ HZ.out)).mono ?_
        rintro e w6 ⟨rfl, hb6⟩
        replace HZ := Lib.hid (HZ.out.trans (hb6.mono HZ.out.size))
        clear hb6
        go_wp2_with fail
        refine (text_any n _ n0 n1 (HTV.out _ HZ.out)).mono ?_
        rintro e w7 ⟨rfl, hb7⟩
        replace HZ := Lib.hid (HZ.out.trans (hb7.mono HZ.out.size))
        clear hb7
        rw [← HT.out]
        go_wp2_with fail
        go_ret
        exact ⟨rfl, HZ.out⟩
      · obtain ⟨S1, hS1⟩ : ∃ S1 : ByteArray, S1 = (⟨#[43]⟩ : ByteArray) ++ U := ⟨_, rfl⟩
        obtain ⟨S2, hS2⟩ : ∃ S2 : ByteArray, S2 = S1 ++ T := ⟨_, rfl⟩
        have s1 : S1.size ≤ 60 := by rw [hS1, ByteArray.size_append]; show 1 + U.size ≤ _; omega
        have s2 : S2.size ≤ 90 := by rw [hS2, ByteArray.size_append]; omega
        have g1 : ∀ w : World, (Op.stringOp .add ⟨#[43]⟩ U).run Tryd.prog w = .ok (.string S1) w := fun w => by rw [hS1]; exact run_string_add w _ _ (by show 1 ≤ _; omega) (by omega)
        have g2 : ∀ w : World, (Op.stringOp .add S1 T).run Tryd.prog w = .ok (.string S2) w := fun w => by rw [hS2]; exact run_string_add w _ _ (by omega) (by omega)
        have hSL : S2.data.toList = 43 :: (List.replicate j 48 ++ Lib.itoa n) := by
          rw [hS2, hS1, HU.out]
          simp only [ByteArray.data_append, Array.toList_append, HTL.out]
          rfl
        have hP := nP_of _ n (plus_num n j hneg) n0 n1
        have PA := Lib.hid (fun w hv => parse_any S2 (by omega) w hv)
        rw [hSL, hP.1, hP.2] at PA
        clear hS1 hS2 hSL hP
        go_wp2_with fail
        refine (PA.out _ (HEV.out _ HZ.out)).mono ?_
        rintro e w6 ⟨rfl, hb6⟩
        replace HZ := Lib.hid (HZ.out.trans (hb6.mono HZ.out.size))
        clear hb6
        go_wp2_with fail
        refine (text_any n _ n0 n1 (HTV.out _ HZ.out)).mono ?_
        rintro e w7 ⟨rfl, hb7⟩
        replace HZ := Lib.hid (HZ.out.trans (hb7.mono HZ.out.size))
        clear hb7
        rw [← HT.out]
        go_wp2_with fail
        go_ret
        exact ⟨rfl, HZ.out⟩
end Go.Proofs.YtfpelhacbmggeaaDoor
