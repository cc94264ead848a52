/- The law ValueTexts: its walk. Every string and every integer. -/
import Derived.Test.YtfpelhacbmggeaaDoorVtLaid
import Derived.Lib.ItoaLen
import Derived.Deep.RegionHeld3
import Derived.Deep.RegionWith
namespace Go.Proofs.YtfpelhacbmggeaaDoor
open Go Go.RowKit
set_option linter.unusedVariables false
set_option linter.unusedSimpArgs false
theorem itoa_parse (n : Int) (n0 : -9223372036854775808 ≤ n) (n1 : n ≤ 9223372036854775807) : nP (Lib.itoa n) = n ∧ eP (Lib.itoa n) = 0 := by
  obtain ⟨h1, h2⟩ := itoa_num n
  have hf : fits n = true := (fits_iff n).2 ⟨n0, n1⟩
  unfold nP eP
  rw [h1, h2, hf]
  exact ⟨rfl, rfl⟩
theorem pe_cases (l : List UInt8) : (eP l = 0 ∨ eP l = 1 ∨ eP l = 9) ∧ (eP l ≠ 0 → nP l = 0) ∧ -9223372036854775808 ≤ nP l ∧ nP l ≤ 9223372036854775807 := by
  unfold nP eP
  cases h1 : isNum l
  · simp
  · cases h2 : fits (numT l)
    · simp
    · have := (fits_iff _).1 h2
      simp only [if_true, Bool.and_true]
      exact ⟨by simp, by simp, this.1, this.2⟩
theorem n_60 (n : Int) (n0 : -9223372036854775808 ≤ n) (n1 : n ≤ 9223372036854775807) : szV n < ten 60 := lows n n0 n1
theorem kept_texts {w w1 w2 : World} {a b : Addr} {x y : Value} (h : w1.cell? a = some x ∧ w1.cell? b = some y ∧ Below w.heap.size w w1) (hb : Below w1.heap.size w1 w2) :
    w2.cell? a = some x ∧ w2.cell? b = some y ∧ Below w.heap.size w w2 :=
  ⟨cell_below h.1 hb, cell_below h.2.1 hb, h.2.2.trans (hb.mono h.2.2.size)⟩
set_option maxRecDepth 100000 in
set_option maxHeartbeats 1600000 in
theorem texts_walk (s : ByteArray) (n : Int) (w : World) (ht : TabV w) (hv : ErrV w) (hs : s.size ≤ 9223372036854775807) (n0 : -9223372036854775808 ≤ n) (n1 : n ≤ 9223372036854775807) :
    Calls Tryd.prog 3 #[.string s, .int .i64 n] w fun e w' => e = .returned (.bool true) ∧ Below w.heap.size w w' := by
  by_cases h60 : (60 : Int) < s.size
  · clear ht hv
    go_enter Tryd.func3, Tryd.ntmps3
    go_wp2_with fail
    refine (awake_both _).mono ?_
    rintro e w1 ⟨rfl, _, z⟩
    go_wp2_with fail
    refine (awake_both _).mono ?_
    rintro e w2 ⟨rfl, _, z2⟩
    go_wp2_with fail
    go_ret
    exact ⟨rfl, z.trans (z2.mono z.size)⟩
  have h60' : (s.size : Int) ≤ 60 := by omega
  have RP := Lib.hid (fun w => refparse_any s (by omega) w)
  have PA := Lib.hid (fun w hv => parse_any s (by omega) w hv)
  obtain ⟨pe1, pe2, pe3, pe4⟩ := pe_cases s.data.toList
  obtain ⟨N, hN⟩ : ∃ N, N = nP s.data.toList := ⟨_, rfl⟩
  obtain ⟨E, hE⟩ : ∃ E, E = eP s.data.toList := ⟨_, rfl⟩
  rw [← hN] at RP PA pe2 pe3 pe4
  rw [← hE] at RP PA pe1 pe2
  have HM60 := Lib.hid (n_60 N pe3 pe4)
  have HN60 := Lib.hid (n_60 n n0 n1)
  have HTV := Lib.hid (fun w' (hb : Below w.heap.size w w') => ht.below hb)
  have HEV := Lib.hid (fun w' (hb : Below w.heap.size w w') => hv.below hb)
  obtain ⟨T, hT⟩ : ∃ T : ByteArray, T = ⟨(Lib.itoa n).toArray⟩ := ⟨_, rfl⟩
  have hTL : T.data.toList = Lib.itoa n := by rw [hT]
  have hTS : T.size ≤ 21 := by rw [Lib.size_eq, hTL]; exact Lib.itoa_length_le n n0 n1
  have PI := Lib.hid (fun w hv => parse_any T (by omega) w hv)
  rw [hTL, (itoa_parse n n0 n1).1, (itoa_parse n n0 n1).2] at PI
  have HT := Lib.hid hT
  clear hN hE ht hv hT hTL h60
  go_enter Tryd.func3, Tryd.ntmps3
  go_wp2_with fail
  refine (awake_both _).mono ?_
  rintro e w1 ⟨rfl, _, z⟩
  go_wp2_with fail
  refine (PA.out _ (HEV.out _ z)).mono ?_
  rintro e w2 ⟨rfl, hb2⟩
  replace z := z.trans (hb2.mono z.size)
  clear hb2
  go_wp2_with fail
  refine (RP.out _).mono ?_
  rintro e w3 ⟨b, rfl, hbv, hb3⟩
  replace z := z.trans (hb3.mono z.size)
  have hbv0 := hbv
  obtain ⟨aS, cS, ds, rfl, h4⟩ := big_parts hbv0
  obtain ⟨kS, hkS⟩ : ∃ kS, kS = ds.length := ⟨_, rfl⟩
  rw [← hkS] at hbv ⊢
  clear hkS
  obtain ⟨sx, hsx⟩ : ∃ sx, sx = decide (N < 0) := ⟨_, rfl⟩
  rw [← hsx] at hbv ⊢
  have HB := Lib.hid hbv
  clear hb3 h4 hbv hsx
  rcases pe1 with rfl | rfl | rfl
  · clear pe2
    obtain ⟨B, hB⟩ : ∃ B, B = w3.heap.size := ⟨_, rfl⟩
    obtain ⟨w4, h4⟩ : ∃ w4, w4 = w3.alloc (.cells #[.bool sx, .slice aS kS cS] 28) := ⟨_, rfl⟩
    have p0 : w4.cell? ⟨B, 0, none⟩ = some (.bool sx) := by rw [h4, hB]; simp [go_sem]
    have p1 : w4.cell? ⟨B, 1, none⟩ = some (.slice aS kS cS) := by rw [h4, hB]; simp [go_sem]
    have hb4 : Below w3.heap.size w3 w4 := by rw [h4]; go_grown
    have z4 : Below w.heap.size w w4 := z.trans (hb4.mono z.size)
    have HB4 := Lib.hid hb4
    have h43 := hb4.size
    go_wp2_with fail
    rw [← h4, ← hB]
    clear h4 hB hb4 z RP PA
    have hEq : decide (N = N) = true := by simp
    have SM := Lib.hid (fun (u v : Value) w hu hv => same_any N N u v w HM60.out HM60.out hu hv)
    rw [hEq] at SM
    clear hEq
    refine wp_region_held_drew (S := fun w' => w'.cell? ⟨B, 0, none⟩ = some (.bool sx) ∧ w'.cell? ⟨B, 1, none⟩ = some (.slice aS kS cS) ∧ Below w.heap.size w w') (by kernel_rfl) ⟨p0, p1, z4.drew⟩ (fun hHeld => ?_)
    refine wpAnyH_take (i := 0) (oi := ⟨some 30, _, _, _, _, _⟩) (v := ?v0) rfl (by kernel_rfl) (by kernel_rfl) (by kernel_rfl) (fun _ _ _ h => h) (Or.inl ⟨by kernel_rfl, ?y0⟩) (by assumption) ?r0
    case y0 =>
      intro w hSw
      try dsimp only at hSw
      first | (go_simp; done) | (go_simp; with_reducible rfl)
    try simp only [Act.put, List.setIfInBounds_toArray, List.set_cons_zero, List.set_cons_succ]
    refine wpAnyH_take (i := 1) (oi := ⟨some 31, _, _, _, _, _⟩) (v := ?v1) rfl (by kernel_rfl) (by kernel_rfl) (by kernel_rfl) (fun _ _ _ h => h) (Or.inl ⟨by kernel_rfl, ?y1⟩) (by assumption) ?r1
    case y1 =>
      intro w hSw
      try dsimp only at hSw
      first | (go_simp; done) | (go_simp; with_reducible rfl)
    try simp only [Act.put, List.setIfInBounds_toArray, List.set_cons_zero, List.set_cons_succ]
    refine wpAnyH_take (i := 2) (oi := ⟨some 32, _, _, _, _, _⟩) (v := ?v2) rfl (by kernel_rfl) (by kernel_rfl) (by kernel_rfl) (fun _ _ _ h => h) (Or.inl ⟨by kernel_rfl, ?y2⟩) (by assumption) ?r2
    case y2 =>
      intro w hSw
      try dsimp only at hSw
      first | (go_simp; done) | (go_simp; with_reducible rfl)
    try simp only [Act.put, List.setIfInBounds_toArray, List.set_cons_zero, List.set_cons_succ]
    refine wpAnyH_take (i := 3) (oi := ⟨some 33, _, _, _, _, _⟩) (v := ?v3) rfl (by kernel_rfl) (by kernel_rfl) (by kernel_rfl) (fun _ _ _ h => h) (Or.inl ⟨by kernel_rfl, ?y3⟩) (by assumption) ?r3
    case y3 =>
      intro w hSw
      try dsimp only at hSw
      first | (go_simp; done) | (go_simp; with_reducible rfl)
    try simp only [Act.put, List.setIfInBounds_toArray, List.set_cons_zero, List.set_cons_succ]
    refine wpAnyH_take (i := 4) (oi := ⟨some 34, _, _, _, _, _⟩) (v := ?v4) rfl (by kernel_rfl) (by kernel_rfl) (by kernel_rfl) (fun _ _ _ h => h) (Or.inl ⟨by kernel_rfl, ?y4⟩) (by assumption) ?r4
    case y4 =>
      intro w hSw
      try dsimp only at hSw
      first | (go_simp; done) | (go_simp; with_reducible rfl)
    try simp only [Act.put, List.setIfInBounds_toArray, List.set_cons_zero, List.set_cons_succ]
    refine wpAnyH_take (i := 5) (oi := ⟨some 35, _, _, _, _, _⟩) (v := ?v5) rfl (by kernel_rfl) (by kernel_rfl) (by kernel_rfl) (fun _ _ _ h => h) (Or.inl ⟨by kernel_rfl, ?y5⟩) (by assumption) ?r5
    case y5 =>
      intro w hSw
      try dsimp only at hSw
      first | (go_simp; done) | (go_simp; with_reducible rfl)
    try simp only [Act.put, List.setIfInBounds_toArray, List.set_cons_zero, List.set_cons_succ]
    refine wpAnyH_take (i := 6) (oi := ⟨some 36, _, _, _, _, _⟩) (v := ?v6) rfl (by kernel_rfl) (by kernel_rfl) (by kernel_rfl) (fun _ _ _ h => h) (Or.inl ⟨by kernel_rfl, ?y6⟩) (by assumption) ?r6
    case y6 =>
      intro w hSw
      try dsimp only at hSw
      first | (go_simp; done) | (go_simp; with_reducible rfl)
    try simp only [Act.put, List.setIfInBounds_toArray, List.set_cons_zero, List.set_cons_succ]
    refine wpAnyH_take (i := 7) (oi := ⟨some 37, _, _, _, _, _⟩) (v := ?v7) rfl (by kernel_rfl) (by kernel_rfl) (by kernel_rfl) (fun _ _ _ h => h) (Or.inl ⟨by kernel_rfl, ?y7⟩) (by assumption) ?r7
    case y7 =>
      intro w hSw
      try dsimp only at hSw
      first | (go_simp; done) | (go_simp; with_reducible rfl)
    try simp only [Act.put, List.setIfInBounds_toArray, List.set_cons_zero, List.set_cons_succ]
    refine wpAnyH_take (i := 9) (oi := ⟨some 39, _, _, _, _, _⟩) (v := ?v9) rfl (by kernel_rfl) (by kernel_rfl) (by kernel_rfl) (fun _ _ _ h => h) (Or.inl ⟨by kernel_rfl, ?y9⟩) (by assumption) ?r9
    case y9 =>
      intro w hSw
      try dsimp only at hSw
      first | (go_simp; done) | (go_simp; with_reducible rfl)
    try simp only [Act.put, List.setIfInBounds_toArray, List.set_cons_zero, List.set_cons_succ]
    refine wpAnyH_ready (rs := [8]) (by kernel_rfl) (by simp) ?_
    refine AllReadyH.cons (i := 8) (o := ⟨some 38, _, _, _, _, _⟩) rfl (fun K hK => ?_) AllReadyH.nil
    go_simp
    go_at_call 9
    refine (of_any N _ pe3 pe4).mono ?_
    rintro e wp ⟨r, rfl, hr, hb⟩
    have hbz := Lib.hid (hb.mono (B' := w3.heap.size) h43)
    go_wp2_with fail
    refine hK.out _ _ ?_ (fun hHeld => ?_)
    · exact kept_texts hHeld hb
    clear hK K
    try simp only [Act.put, List.setIfInBounds_toArray, List.set_cons_zero, List.set_cons_succ]
    clear hb
    refine wpAnyH_ready (rs := [10]) (by kernel_rfl) (by simp) ?_
    refine AllReadyH.cons (i := 10) (o := ⟨some 40, _, _, _, _, _⟩) rfl (fun K hK => ?_) AllReadyH.nil
    go_simp
    go_at_call 8
    refine (SM.out _ _ _ hr (bigV_below HB.out (HB4.out.drew.trans hbz.out))).mono ?_
    rintro e wt ⟨rfl, hb⟩
    go_wp2_with fail
    refine hK.out _ _ ?_ (fun hHeld => ?_)
    · exact kept_texts (by assumption) hb
    clear hK K
    try simp only [Act.put, List.setIfInBounds_toArray, List.set_cons_zero, List.set_cons_succ]
    refine wpAnyH_take (i := 11) (oi := ⟨some 41, _, _, _, _, _⟩) (v := ?v11) rfl (by kernel_rfl) (by kernel_rfl) (by kernel_rfl) (fun _ _ _ h => h) (Or.inl ⟨by kernel_rfl, ?y11⟩) (by assumption) ?r11
    case y11 =>
      intro w hSw
      try dsimp only at hSw
      first | (go_simp; done) | (go_simp; with_reducible rfl)
    try simp only [Act.put, List.setIfInBounds_toArray, List.set_cons_zero, List.set_cons_succ]
    refine wpAnyH_take (i := 12) (oi := ⟨some 42, _, _, _, _, _⟩) (v := ?v12) rfl (by kernel_rfl) (by kernel_rfl) (by kernel_rfl) (fun _ _ _ h => h) (Or.inl ⟨by kernel_rfl, ?y12⟩) (by assumption) ?r12
    case y12 =>
      intro w hSw
      try dsimp only at hSw
      first | (go_simp; done) | (go_simp; with_reducible rfl)
    try simp only [Act.put, List.setIfInBounds_toArray, List.set_cons_zero, List.set_cons_succ]
    refine wpAnyH_take (i := 13) (oi := ⟨some 43, _, _, _, _, _⟩) (v := ?v13) rfl (by kernel_rfl) (by kernel_rfl) (by kernel_rfl) (fun _ _ _ h => h) (Or.inl ⟨by kernel_rfl, ?y13⟩) (by assumption) ?r13
    case y13 =>
      intro w hSw
      try dsimp only at hSw
      first | (go_simp; done) | (go_simp; with_reducible rfl)
    try simp only [Act.put, List.setIfInBounds_toArray, List.set_cons_zero, List.set_cons_succ]
    refine wpAnyH_take (i := 14) (oi := ⟨some 44, _, _, _, _, _⟩) (v := ?v14) rfl (by kernel_rfl) (by kernel_rfl) (by kernel_rfl) (fun _ _ _ h => h) (Or.inl ⟨by kernel_rfl, ?y14⟩) (by assumption) ?r14
    case y14 =>
      intro w hSw
      try dsimp only at hSw
      first | (go_simp; done) | (go_simp; with_reducible rfl)
    try simp only [Act.put, List.setIfInBounds_toArray, List.set_cons_zero, List.set_cons_succ]
    refine wpAnyH_take (i := 15) (oi := ⟨some 45, _, _, _, _, _⟩) (v := ?v15) rfl (by kernel_rfl) (by kernel_rfl) (by kernel_rfl) (fun _ _ _ h => h) (Or.inl ⟨by kernel_rfl, ?y15⟩) (by assumption) ?r15
    case y15 =>
      intro w hSw
      try dsimp only at hSw
      first | (go_simp; done) | (go_simp; with_reducible rfl)
    try simp only [Act.put, List.setIfInBounds_toArray, List.set_cons_zero, List.set_cons_succ]
    refine wpAnyH_take (i := 16) (oi := ⟨some 46, _, _, _, _, _⟩) (v := ?v16) rfl (by kernel_rfl) (by kernel_rfl) (by kernel_rfl) (fun _ _ _ h => h) (Or.inl ⟨by kernel_rfl, ?y16⟩) (by assumption) ?r16
    case y16 =>
      intro w hSw
      try dsimp only at hSw
      first | (go_simp; done) | (go_simp; with_reducible rfl)
    try simp only [Act.put, List.setIfInBounds_toArray, List.set_cons_zero, List.set_cons_succ]
    refine wpAnyH_take (i := 17) (oi := ⟨some 47, _, _, _, _, _⟩) (v := ?v17) rfl (by kernel_rfl) (by kernel_rfl) (by kernel_rfl) (fun _ _ _ h => h) (Or.inl ⟨by kernel_rfl, ?y17⟩) (by assumption) ?r17
    case y17 =>
      intro w hSw
      try dsimp only at hSw
      first | (go_simp; done) | (go_simp; with_reducible rfl)
    try simp only [Act.put, List.setIfInBounds_toArray, List.set_cons_zero, List.set_cons_succ]
    refine wpAnyH_take (i := 18) (oi := ⟨some 48, _, _, _, _, _⟩) (v := undef) rfl (by kernel_rfl) (by kernel_rfl) (by kernel_rfl) (fun _ _ _ h => h) (Or.inr ⟨by kernel_rfl, rfl⟩) (by assumption) ?r18
    try simp only [Act.put, List.setIfInBounds_toArray, List.set_cons_zero, List.set_cons_succ]
    refine wpAnyH_take (i := 19) (oi := ⟨some 49, _, _, _, _, _⟩) (v := undef) rfl (by kernel_rfl) (by kernel_rfl) (by kernel_rfl) (fun _ _ _ h => h) (Or.inr ⟨by kernel_rfl, rfl⟩) (by assumption) ?r19
    try simp only [Act.put, List.setIfInBounds_toArray, List.set_cons_zero, List.set_cons_succ]
    refine wpAnyH_take (i := 20) (oi := ⟨some 50, _, _, _, _, _⟩) (v := ?v20) rfl (by kernel_rfl) (by kernel_rfl) (by kernel_rfl) (fun _ _ _ h => h) (Or.inl ⟨by kernel_rfl, ?y20⟩) (by assumption) ?r20
    case y20 =>
      intro w hSw
      try dsimp only at hSw
      first | (go_simp; done) | (go_simp; with_reducible rfl)
    try simp only [Act.put, List.setIfInBounds_toArray, List.set_cons_zero, List.set_cons_succ]
    refine wpAnyH_take (i := 21) (oi := ⟨some 51, _, _, _, _, _⟩) (v := ?v21) rfl (by kernel_rfl) (by kernel_rfl) (by kernel_rfl) (fun _ _ _ h => h) (Or.inl ⟨by kernel_rfl, ?y21⟩) (by assumption) ?r21
    case y21 =>
      intro w hSw
      try dsimp only at hSw
      first | (go_simp; done) | (go_simp; with_reducible rfl)
    try simp only [Act.put, List.setIfInBounds_toArray, List.set_cons_zero, List.set_cons_succ]
    refine wpAnyH_done (by kernel_rfl) ?_ _
    obtain ⟨_, _, zz⟩ := hHeld
    have HZ := Lib.hid zz
    clear zz
    go_wp2_with fail
    refine (text_any n _ n0 n1 (HTV.out _ HZ.out)).mono ?_
    rintro e w5 ⟨rfl, hb5⟩
    replace HZ := Lib.hid (HZ.out.trans (hb5.mono HZ.out.size))
    clear hb5
    rw [← HT.out]
    go_wp2_with fail
    refine (PI.out _ (HEV.out _ HZ.out)).mono ?_
    rintro e w6 ⟨rfl, hb6⟩
    replace HZ := Lib.hid (HZ.out.trans (hb6.mono HZ.out.size))
    clear hb6
    go_wp2_with fail
    refine (of_any n _ n0 n1).mono ?_
    rintro e w7 ⟨r7, rfl, hr7, hb7⟩
    replace HZ := Lib.hid (HZ.out.trans (hb7.mono HZ.out.size))
    have HR7 := Lib.hid hr7
    obtain ⟨a7, c7, ds7, rfl, _⟩ := big_parts hr7
    clear hb7 hr7
    go_wp2_with fail
    refine (text_dig n _ _ HN60.out HR7.out).mono ?_
    rintro e w8 ⟨rfl, hb8⟩
    replace HZ := Lib.hid (HZ.out.trans (hb8.mono HZ.out.size))
    clear hb8
    rw [← HT.out]
    go_wp2_with fail
    go_ret
    exact ⟨rfl, HZ.out⟩
  all_goals
    obtain rfl : N = 0 := pe2 (by decide)
    have zz := fun q => below_drewN (z.alloc z.size (.cells #[.bool sx, .slice aS kS cS] 28)) q
    clear pe2 RP PA HB
    go_wp2_with fail
    go_quiet (fail)
    have HZ := Lib.hid zz
    clear zz
    go_wp2_with fail
    refine (text_any n _ n0 n1 (HTV.out _ (HZ.out _))).mono ?_
    rintro e w5 ⟨rfl, hb5⟩
    replace HZ := Lib.hid ((HZ.out _).trans (hb5.mono (HZ.out _).size))
    clear hb5
    rw [← HT.out]
    go_wp2_with fail
    refine (PI.out _ (HEV.out _ HZ.out)).mono ?_
    rintro e w6 ⟨rfl, hb6⟩
    replace HZ := Lib.hid (HZ.out.trans (hb6.mono HZ.out.size))
    clear hb6
    go_wp2_with fail
    refine (of_any n _ n0 n1).mono ?_
    rintro e w7 ⟨r7, rfl, hr7, hb7⟩
    replace HZ := Lib.hid (HZ.out.trans (hb7.mono HZ.out.size))
    have HR7 := Lib.hid hr7
    obtain ⟨a7, c7, ds7, rfl, _⟩ := big_parts hr7
    clear hb7 hr7
    go_wp2_with fail
    refine (text_dig n _ _ HN60.out HR7.out).mono ?_
    rintro e w8 ⟨rfl, hb8⟩
    replace HZ := Lib.hid (HZ.out.trans (hb8.mono HZ.out.size))
    clear hb8
    rw [← HT.out]
    go_wp2_with fail
    go_ret
    exact ⟨rfl, HZ.out⟩
end Go.Proofs.YtfpelhacbmggeaaDoor
