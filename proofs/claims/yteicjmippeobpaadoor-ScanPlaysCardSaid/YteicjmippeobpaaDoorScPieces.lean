/- The law ScanPieces: its walk. Every two strings. -/
import Derived.Test.YteicjmippeobpaaDoorScJoins
import Derived.Deep.RegionHeld3
namespace Go.Proofs.YteicjmippeobpaaDoor
open Go Go.RowKit
theorem quoteB_len (l : List Int) : 2 ≤ (quoteB l).length := by unfold quoteB quoteIn; simp
/-- two quotations, the one's end and the other's beginning taken off -/
theorem quote_pieces (l m : List Int) : quoteB (l ++ m) = (quoteB l).take ((quoteB l).length - 1) ++ (quoteB m).drop 1 := by
  have e1 : (quoteB l).take ((quoteB l).length - 1) = quoteIn l := by
    unfold quoteB
    rw [List.length_append]
    simp
  have e2 : (quoteB m).drop 1 = m.flatMap qsign ++ [34] := by unfold quoteB quoteIn; simp
  rw [e1, e2]
  unfold quoteB quoteIn
  rw [List.flatMap_append]
  simp
theorem bytes_eq {a b : ByteArray} (h : a.data.toList = b.data.toList) : a = b := by
  cases a; cases b
  simp only [ByteArray.mk.injEq] at h ⊢
  exact Array.toList_inj.1 h
theorem extract_list (s : ByteArray) (a b : Nat) : (s.extract a b).data.toList = (s.data.toList.drop a).take (b - a) := by
  rw [ByteArray.data_extract, Array.toList_extract, List.extract_eq_take_drop]
set_option maxRecDepth 100000 in
set_option maxHeartbeats 1600000 in
theorem pieces_walk (a b : ByteArray) (w : World) (he : Esc w) (ha : a.size ≤ 9223372036854775807) (hb : b.size ≤ 9223372036854775807) : Calls Tryd.prog 3 #[.string a, .string b] w fun e w' => e = .returned (.bool true) ∧ Below w.heap.size w w' := by
  have HA := Lib.hid (awake_any w he)
  have HA2 := Lib.hid (fun w' (hb : Below w.heap.size w w') => awake_any w' (he.below he.lt hb))
  have HE := Lib.hid he
  clear he
  by_cases h1 : 300 < a.size ∨ 300 < b.size
  · rcases (by omega : (300 : Int) < a.size ∨ ((a.size : Int) ≤ 300 ∧ (300 : Int) < b.size)) with h2 | ⟨h2, h3⟩
    all_goals
      clear h1
      go_enter Tryd.func3, Tryd.ntmps3
      go_wp2_with fail
      refine HA.out.mono ?_
      rintro e w1 ⟨rfl, hb1⟩
      go_wp2_with fail
      refine (HA2.out _ hb1).mono ?_
      rintro e w2 ⟨rfl, hb2⟩
      go_wp2_with fail
      go_ret
      exact ⟨rfl, hb1.trans (hb2.mono hb1.size)⟩
  have a3 : (a.size : Int) ≤ 300 := by omega
  have b3 : (b.size : Int) ≤ 300 := by omega
  clear h1 ha hb
  obtain ⟨l, r, hr⟩ := read_some a.data.toList
  obtain ⟨m, t, ht⟩ := read_some b.data.toList
  have S1 := Lib.hid (fun w => signs_any a l r w hr (by omega))
  have S2 := Lib.hid (fun w => signs_any b m t w ht (by omega))
  rcases r with _ | ⟨x, r⟩
  · rcases t with _ | ⟨x, t⟩
    · have hj := read_join2 hr ht
      have hsz : (a ++ b).size = a.size + b.size := by simp
      have he2 : ∀ w', Below w.heap.size w w' → Esc w' := fun w' hb => HE.out.below HE.out.lt hb
      have Q1 := Lib.hid (fun w' hb => quote_any a l w' hr (by omega) (he2 w' hb))
      have Q2 := Lib.hid (fun w' hb => quote_any b m w' ht (by omega) (he2 w' hb))
      have Q3 := Lib.hid (fun w' hb => quote_any (a ++ b) (l ++ m) w' hj (by omega) (he2 w' hb))
      have l1 := read_len hr
      have l2 := read_len ht
      have e1 : a.data.toList.length = a.size := rfl
      have e2 : b.data.toList.length = b.size := rfl
      have q1 := quoteIn_len l
      have q2 := quoteIn_len m
      obtain ⟨P, hP⟩ : ∃ P : ByteArray, P = ⟨(quoteB l).toArray⟩ := ⟨_, rfl⟩
      obtain ⟨T, hT⟩ : ∃ T : ByteArray, T = ⟨(quoteB m).toArray⟩ := ⟨_, rfl⟩
      obtain ⟨R, hR⟩ : ∃ R : ByteArray, R = ⟨(quoteB (l ++ m)).toArray⟩ := ⟨_, rfl⟩
      have hPs : P.size = (quoteB l).length := by rw [hP]; rfl
      have hTs : T.size = (quoteB m).length := by rw [hT]; rfl
      have p2 := quoteB_len l
      have t2 := quoteB_len m
      have p3 : (quoteB l).length = (quoteIn l).length + 1 := by unfold quoteB; simp
      have t3 : (quoteB m).length = (quoteIn m).length + 1 := by unfold quoteB; simp
      have hEQ : R = P.extract 0 (P.size - 1) ++ T.extract 1 T.size := by
        refine bytes_eq ?_
        rw [join_data, extract_list, extract_list, hR, hPs, hTs, hP, hT]
        show quoteB (l ++ m) = _
        rw [quote_pieces l m]
        show _ = List.take _ (List.drop 0 (quoteB l)) ++ List.take _ (List.drop 1 (quoteB m))
        rw [List.drop_zero, Nat.sub_zero, List.take_of_length_le (l := List.drop 1 (quoteB m)) (by rw [List.length_drop]; exact Nat.le_refl _)]
      rw [← hP] at Q1
      rw [← hT] at Q2
      rw [← hR] at Q3
      have P1 : (1 : Int) < P.size := by omega
      have T1 : (1 : Int) < T.size := by omega
      have P4 : (P.size : Int) ≤ 4000 := by omega
      have T4 : (T.size : Int) ≤ 4000 := by omega
      have EQ := Lib.hid hEQ
      clear hr ht hj he2 hsz l1 l2 e1 e2 q1 q2 hP hT hR hPs hTs p2 t2 p3 t3 hEQ
      have g1 : IntKind.i64.wrap ((P.size : Int) - 1) = (P.size : Int) - 1 := IntWalk.i64_in _ ⟨by omega, by omega⟩
      have g2 : (1 : Int) ≤ (P.size : Int) := by omega
      have g3 : ((P.size : Int) - 1).toNat = P.size - 1 := by omega
      have g4 : ¬ (P.size : Int) < (P.size : Int) - 1 := by omega
      have g5 : ¬ (T.size : Int) < 1 := by omega
      have g6 : P.size - 1 + (T.size - 1) ≤ 9223372036854775807 := by omega
      have g7 : a.size + b.size ≤ 9223372036854775807 := by omega
      have g9 : ∀ w : World, (Op.stringOp .add a b).run Tryd.prog w = .ok (.string (a ++ b)) w := fun w => run_string_add w a b (by omega) (by omega)
      have g10 : ∀ w : World, (Op.stringOp .add (P.extract 0 (P.size - 1)) (T.extract 1 T.size)).run Tryd.prog w = .ok (.string (P.extract 0 (P.size - 1) ++ T.extract 1 T.size)) w := fun w => run_string_add w _ _ (by rw [ByteArray.size_extract]; omega) (by rw [ByteArray.size_extract]; omega)
      have g8 : R.toList = (P.extract 0 (P.size - 1) ++ T.extract 1 T.size).toList := by rw [← EQ.out]
      go_enter Tryd.func3, Tryd.ntmps3
      go_wp2_with fail
      refine HA.out.mono ?_
      rintro e w1 ⟨rfl, hb1⟩
      go_wp2_with fail
      refine (S1.out _).mono ?_
      rintro e w2 ⟨a1, c1, rfl, _, hb2⟩
      replace hb1 := hb1.trans (hb2.mono hb1.size)
      clear hb2
      go_wp2_with fail
      refine (S2.out _).mono ?_
      rintro e w3 ⟨a2, c2, rfl, _, hb2⟩
      replace hb1 := hb1.trans (hb2.mono hb1.size)
      clear hb2
      go_wp2_with fail
      refine (Q1.out _ hb1).mono ?_
      rintro e w4 ⟨rfl, hb2⟩
      replace hb1 := hb1.trans (hb2.mono hb1.size)
      clear hb2
      go_wp2_with fail
      refine (Q2.out _ hb1).mono ?_
      rintro e w5 ⟨rfl, hb2⟩
      replace hb1 := hb1.trans (hb2.mono hb1.size)
      clear hb2
      go_wp2_with fail
      go_region_held3 (fun w' => Below w.heap.size w w') (first | assumption | exact hb1 | exact hb1.drew | exact hb6' ) (first
        | (go_at_call 15; refine (Q3.out _ (by first | assumption | exact hb1 | exact hb1.drew)).mono ?_; rintro e w6 ⟨rfl, hb6⟩; have hb6' : Below w.heap.size w w6 := Below.trans (by first | assumption | exact hb1.drew) (hb6.mono (by first | exact hb1.size | exact hb1.drew.size))))
      all_goals
        have hb9 : Below w.heap.size w w6 := by assumption
        go_wp2_with fail
        go_ret
        exact ⟨rfl, hb9⟩
    · go_enter Tryd.func3, Tryd.ntmps3
      go_wp2_with fail
      refine HA.out.mono ?_
      rintro e w1 ⟨rfl, hb1⟩
      go_wp2_with fail
      refine (S1.out _).mono ?_
      rintro e w2 ⟨a1, c1, rfl, _, hb2⟩
      go_wp2_with fail
      refine (S2.out _).mono ?_
      rintro e w3 ⟨a2, c2, rfl, _, hb3⟩
      go_wp2_with fail
      go_ret
      exact ⟨rfl, hb1.trans ((hb2.trans (hb3.mono hb2.size)).mono hb1.size)⟩
  · go_enter Tryd.func3, Tryd.ntmps3
    go_wp2_with fail
    refine HA.out.mono ?_
    rintro e w1 ⟨rfl, hb1⟩
    go_wp2_with fail
    refine (S1.out _).mono ?_
    rintro e w2 ⟨a1, c1, rfl, _, hb2⟩
    go_wp2_with fail
    refine (S2.out _).mono ?_
    rintro e w3 ⟨a2, c2, rfl, _, hb3⟩
    go_wp2_with fail
    go_ret
    exact ⟨rfl, hb1.trans ((hb2.trans (hb3.mono hb2.size)).mono hb1.size)⟩
end Go.Proofs.YteicjmippeobpaaDoor
