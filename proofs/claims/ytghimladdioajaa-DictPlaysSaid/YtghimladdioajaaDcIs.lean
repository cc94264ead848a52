/- Contracts over this seat's program: becklaw03.Ref, becklaw05.Is: a dictionary and the document's are the same. -/
import Derived.Test.YtghimladdioajaaDcRefPut2
import Derived.Test.YtghimladdioajaaDcAwake
namespace Go.Proofs.Ytghimladdioajaa
open Go Go.RowKit
set_option linter.unusedVariables false
set_option linter.unusedSimpArgs false
set_option maxRecDepth 100000 in
set_option maxHeartbeats 800000 in
theorem ref_any (X : Tm) (hX : KeyT X) (w : World) : Calls Try.prog 27 #[tmV X] w fun e w' => e = .returned (refT X) ∧ Below w.heap.size w w' := by
  cases X with
  | blank s =>
    show Calls Try.prog 27 #[.iface 93 (.agg #[.string s])] w fun e w' => e = .returned (.agg #[.int .i64 0, .string s, .string ⟨#[]⟩, .string ⟨#[]⟩]) ∧ Below w.heap.size w w'
    have t0 := ta_blank_Blank s
    have t1 := ta_blank_IRI s
    have t2 := ta_blank_Literal s
    go_enter Try.func27, Try.ntmps27
    go_wp2
    refine bodyPost_ret (v := .agg #[.int .i64 0, .string s, .string ⟨#[]⟩, .string ⟨#[]⟩]) (by simp [results, Try.results27, go_sem]) rfl ?_
    exact ⟨rfl, by go_grown⟩
  | iri s =>
    show Calls Try.prog 27 #[.iface 95 (.agg #[.string s])] w fun e w' => e = .returned (.agg #[.int .i64 1, .string s, .string ⟨#[]⟩, .string ⟨#[]⟩]) ∧ Below w.heap.size w w'
    have t0 := ta_iri_Blank s
    have t1 := ta_iri_IRI s
    have t2 := ta_iri_Literal s
    go_enter Try.func27, Try.ntmps27
    go_wp2
    refine bodyPost_ret (v := .agg #[.int .i64 1, .string s, .string ⟨#[]⟩, .string ⟨#[]⟩]) (by simp [results, Try.results27, go_sem]) rfl ?_
    exact ⟨rfl, by go_grown⟩
  | lit s t l =>
    show Calls Try.prog 27 #[.iface 84 (.agg #[.string s, .string t, .string l])] w fun e w' => e = .returned (.agg #[.int .i64 2, .string s, .string t, .string l]) ∧ Below w.heap.size w w'
    have t0 := ta_lit_Blank s t l
    have t1 := ta_lit_IRI s t l
    have t2 := ta_lit_Literal s t l
    go_enter Try.func27, Try.ntmps27
    go_wp2
    refine bodyPost_ret (v := .agg #[.int .i64 2, .string s, .string t, .string l]) (by simp [results, Try.results27, go_sem]) rfl ?_
    exact ⟨rfl, by go_grown⟩
  | odd n => exact hX.elim
  | none => exact hX.elim
theorem kept4 {w1 w2 : World} {a0 a1 a2 a3 : Addr} {v0 v1 v2 v3 : Value} (h : w1.cell? a0 = some v0 ∧ w1.cell? a1 = some v1 ∧ w1.cell? a2 = some v2 ∧ w1.cell? a3 = some v3) (hb : Below w1.heap.size w1 w2) :
    w2.cell? a0 = some v0 ∧ w2.cell? a1 = some v1 ∧ w2.cell? a2 = some v2 ∧ w2.cell? a3 = some v3 := by
  obtain ⟨h0, h1, h2, h3⟩ := h
  exact ⟨cell_below h0 hb, cell_below h1 hb, cell_below h2 hb, cell_below h3 hb⟩
theorem idx_self {ts : List Tm} (hd : Dist ts) (hk : ∀ x ∈ ts, KeyT x) (i : Nat) (hi : i < ts.length) : idxT (ts[i]'hi) ts = some i := by
  have := idx_cut hd hk i 0 (by simpa using hi)
  simpa using this
theorem neq_refT (X : Tm) (w : World) : (Go.binOp BinOp.neq 31 (refT X) (refT X)).run Try.prog w = .ok (.bool false) w := by
  have h := eq_refT X X w
  have hs : eqD X X = true := by unfold eqD; simp [sameS]
  rw [hs] at h
  change ((Op.equal 31 (refT X) (refT X)) >>= fun b => pure (Value.bool b)).run Try.prog w = _ at h
  change ((Op.equal 31 (refT X) (refT X)) >>= fun b => pure (Value.bool !b)).run Try.prog w = _
  rw [Sem.run_bind] at h ⊢
  cases hr : (Op.equal 31 (refT X) (refT X)).run Try.prog w with
  | ok b' w' =>
    rw [hr] at h
    simp only [Result.andThen_ok, Sem.run_pure] at h ⊢
    cases h
    rfl
  | halt u w' =>
    rw [hr] at h
    simp [Result.andThen] at h
set_option maxRecDepth 100000 in
set_option maxHeartbeats 3200000 in
theorem is_any {G : Tm → Bool} (hG : GoodFn G) {base p m : Nat} {ts : List Tm} (room room' : Int) (V : Value) (w : World) (hm : MaxV w) (h : DcAt base p m ts room w) (hr : DocRow w 0 V ts) (hf : Fine G ts) (hd : Dist ts) :
    Calls Try.prog 15 #[.pointer (some ⟨p, 0, none⟩), .agg #[.int .i64 room', V]] w fun e w' => e = .returned (.bool true) ∧ Below w.heap.size w w' := by
  obtain ⟨a, cap, rfl⟩ := hr.form
  have HR := Lib.hid hr
  have HD := Lib.hid h
  have HM := Lib.hid hm
  have HF := Lib.hid (fun (i : Nat) (hi : i < ts.length) => hf _ (List.getElem_mem hi))
  have HS := Lib.hid (fun (i : Nat) (hi : i < ts.length) => idx_self hd hf.key i hi)
  have hl : ts.length ≤ 65536 := by obtain ⟨_, _, _, _, _, _, _, _, _, _, h8⟩ := h; exact h8
  have HG := Lib.hid hG
  clear h hr hf hd hm hG
  obtain ⟨W0, hW0⟩ : ∃ W0, W0 = w.alloc (.cells #[.int .i64 room', .slice a ts.length cap] 29) := ⟨_, rfl⟩
  have hbw : Below w.heap.size w W0 := by rw [hW0]; go_grown
  have hd1 : W0.cell? ⟨w.heap.size, 1, none⟩ = some (.slice a ts.length cap) := by rw [hW0]; simp [go_sem]
  have HH := Lib.hid (⟨hbw, hd1⟩ : _ ∧ _)
  have hW0s := Lib.hid (show W0.heap.size = w.heap.size + 1 by rw [hW0]; simp)
  have HW0 := Lib.hid hW0
  clear hW0 hbw hd1
  go_enter Try.func15, Try.ntmps15
  go_wp2
  rw [← HW0.out]
  go_loopw [18] (fun i wr => ∃ k : Nat, k ≤ ts.length ∧ i = .int .i64 k ∧ Below (w.heap.size + 1) W0 wr) (fun i _ => ts.length - (intOf i).toNat)
  case atStart => exact ⟨0, by omega, rfl, Below.refl _ _⟩
  case round =>
    obtain ⟨k, hk, rfl, hb⟩ := hrel
    have hb0 := HH.out.1.trans (hb.mono (Nat.le_succ _))
    have HB := Lib.hid hb
    have HB0 := Lib.hid hb0
    have hrow := HR.out.below hb0
    clear hb hb0
    by_cases hlt : k < ts.length
    · obtain ⟨g, cap', hv, _, hg, d0, d1, d2, d3⟩ := doc_at hrow k hlt
      obtain rfl : a = some ⟨g, 0, none⟩ := by injection hv
      obtain ⟨hx, hz, hgx⟩ := HF.out k hlt
      have HT := Lib.hid (fun w1 (hb : Below w.heap.size w w1) => term_yes k hlt (HD.out.keep hb))
      have HFI := Lib.hid (fun w1 (hb : Below w.heap.size w w1) => find_good (ts[k]'hlt) hx (HD.out.keep hb) (hgx ▸ ((HG.out (ts[k]'hlt) hz).1 w1 (HM.out.below hb))))
      unfold findV at HFI
      rw [HS.out k hlt] at HFI
      have HRE := Lib.hid (fun w => real_any (ts[k]'hlt) hx w)
      have HRF := Lib.hid (fun w => ref_any (ts[k]'hlt) hx w)
      have QE := neq_refT (ts[k]'hlt)
      have b1 : (0 : Int) ≤ (k : Int) := by omega
      have b2 : (k : Int) < (ts.length : Int) := by omega
      clear hrow hv hx hz hgx
      unfold refT at HRE HRF QE
      generalize tmV (ts[k]'hlt) = X at *
      generalize kindV (ts[k]'hlt) = k0 at *
      generalize text0 (ts[k]'hlt) = s0 at *
      generalize text1 (ts[k]'hlt) = s1 at *
      generalize text2 (ts[k]'hlt) = s2 at *
      have hsz : w.heap.size + 1 ≤ wr.heap.size := by have := HB.out.size; have := hW0s.out; omega
      go_wp2_with fail
      obtain ⟨W1, hW1⟩ : ∃ W1, W1 = wr.alloc (.cells #[.int .i64 k0, .string s0, .string s1, .string s2] 31) := ⟨_, rfl⟩
      have hB1 : Below (w.heap.size + 1) W0 W1 := by rw [hW1]; exact HB.out.alloc hsz _
      have e0 : W1.cell? ⟨wr.heap.size, 0, none⟩ = some (.int .i64 k0) := by rw [hW1]; simp [go_sem]
      have e1 : W1.cell? ⟨wr.heap.size, 1, none⟩ = some (.string s0) := by rw [hW1]; simp [go_sem]
      have e2 : W1.cell? ⟨wr.heap.size, 2, none⟩ = some (.string s1) := by rw [hW1]; simp [go_sem]
      have e3 : W1.cell? ⟨wr.heap.size, 3, none⟩ = some (.string s2) := by rw [hW1]; simp [go_sem]
      rw [← hW1]
      clear hW1 d0 d1 d2 d3 hg
      have HB1 := Lib.hid hB1
      clear hB1
      refine (HT.out W1 (HH.out.1.trans (HB1.out.mono (Nat.le_succ _)))).mono ?_
      rintro e w2 ⟨rfl, hb2⟩
      have e0 := cell_below e0 hb2
      have e1 := cell_below e1 hb2
      have e2 := cell_below e2 hb2
      have e3 := cell_below e3 hb2
      replace HB1 := Lib.hid (HB1.out.trans (hb2.mono (by have := HB1.out.size; have := hW0s.out; omega)))
      clear hb2
      go_wp2_with fail
      refine (HRE.out _).mono ?_
      rintro e w3 ⟨rfl, hb3⟩
      have e0 := cell_below e0 hb3
      have e1 := cell_below e1 hb3
      have e2 := cell_below e2 hb3
      have e3 := cell_below e3 hb3
      replace HB1 := Lib.hid (HB1.out.trans (hb3.mono (by have := HB1.out.size; have := hW0s.out; omega)))
      clear hb3
      go_wp2_with fail
      refine (HFI.out w3 (HH.out.1.trans (HB1.out.mono (Nat.le_succ _)))).mono ?_
      rintro e w4 ⟨rfl, hb4⟩
      have e0 := cell_below e0 hb4
      have e1 := cell_below e1 hb4
      have e2 := cell_below e2 hb4
      have e3 := cell_below e3 hb4
      replace HB1 := Lib.hid (HB1.out.trans (hb4.mono (by have := HB1.out.size; have := hW0s.out; omega)))
      clear hb4
      go_wp2_with fail
      have QG : ∀ w, (Go.eqGuard BinOp.neq 31 (.tmp 49) (.tmp 50) (.agg #[.int .i64 k0, .string s0, .string s1, .string s2]) (.agg #[.int .i64 k0, .string s0, .string s1, .string s2])).run Try.prog w = .ok () w := fun w => by kernel_rfl
      refine wp_region_held_drew (S := (fun w' => w'.cell? ⟨wr.heap.size, 0, none⟩ = some (.int .i64 k0) ∧ w'.cell? ⟨wr.heap.size, 1, none⟩ = some (.string s0) ∧ w'.cell? ⟨wr.heap.size, 2, none⟩ = some (.string s1) ∧ w'.cell? ⟨wr.heap.size, 3, none⟩ = some (.string s2))) (by kernel_rfl) ?hSisl0 (fun hHeld => ?_)
      case hSisl0 => exact ⟨e0, e1, e2, e3⟩
      refine wpAnyH_take (i := 0) (oi := ⟨some 36, _, _, _, _, _⟩) (v := ?visl0) rfl (by kernel_rfl) (by kernel_rfl) (by kernel_rfl) (fun _ _ _ h => h) (Or.inl ⟨by kernel_rfl, ?yisl0⟩) (by assumption) ?risl0
      case yisl0 =>
        intro w hSw
        try dsimp only at hSw
        first | (go_simp; done) | (go_simp; with_reducible rfl)
      try simp only [Act.put, List.setIfInBounds_toArray, List.set_cons_zero, List.set_cons_succ]
      refine wpAnyH_take (i := 1) (oi := ⟨some 37, _, _, _, _, _⟩) (v := ?visl1) rfl (by kernel_rfl) (by kernel_rfl) (by kernel_rfl) (fun _ _ _ h => h) (Or.inl ⟨by kernel_rfl, ?yisl1⟩) (by assumption) ?risl1
      case yisl1 =>
        intro w hSw
        try dsimp only at hSw
        first | (go_simp; done) | (go_simp; with_reducible rfl)
      try simp only [Act.put, List.setIfInBounds_toArray, List.set_cons_zero, List.set_cons_succ]
      refine wpAnyH_take (i := 2) (oi := ⟨some 38, _, _, _, _, _⟩) (v := ?visl2) rfl (by kernel_rfl) (by kernel_rfl) (by kernel_rfl) (fun _ _ _ h => h) (Or.inl ⟨by kernel_rfl, ?yisl2⟩) (by assumption) ?risl2
      case yisl2 =>
        intro w hSw
        try dsimp only at hSw
        first | (go_simp; done) | (go_simp; with_reducible rfl)
      try simp only [Act.put, List.setIfInBounds_toArray, List.set_cons_zero, List.set_cons_succ]
      refine wpAnyH_take (i := 3) (oi := ⟨some 39, _, _, _, _, _⟩) (v := ?visl3) rfl (by kernel_rfl) (by kernel_rfl) (by kernel_rfl) (fun _ _ _ h => h) (Or.inl ⟨by kernel_rfl, ?yisl3⟩) (by assumption) ?risl3
      case yisl3 =>
        intro w hSw
        try dsimp only at hSw
        first | (go_simp; done) | (go_simp; with_reducible rfl)
      try simp only [Act.put, List.setIfInBounds_toArray, List.set_cons_zero, List.set_cons_succ]
      refine wpAnyH_take (i := 4) (oi := ⟨some 40, _, _, _, _, _⟩) (v := ?visl4) rfl (by kernel_rfl) (by kernel_rfl) (by kernel_rfl) (fun _ _ _ h => h) (Or.inl ⟨by kernel_rfl, ?yisl4⟩) (by assumption) ?risl4
      case yisl4 =>
        intro w hSw
        try dsimp only at hSw
        first | (go_simp; done) | (go_simp; with_reducible rfl)
      try simp only [Act.put, List.setIfInBounds_toArray, List.set_cons_zero, List.set_cons_succ]
      refine wpAnyH_take (i := 5) (oi := ⟨some 41, _, _, _, _, _⟩) (v := ?visl5) rfl (by kernel_rfl) (by kernel_rfl) (by kernel_rfl) (fun _ _ _ h => h) (Or.inl ⟨by kernel_rfl, ?yisl5⟩) (by assumption) ?risl5
      case yisl5 =>
        intro w hSw
        try dsimp only at hSw
        first | (go_simp; done) | (go_simp; with_reducible rfl)
      try simp only [Act.put, List.setIfInBounds_toArray, List.set_cons_zero, List.set_cons_succ]
      refine wpAnyH_take (i := 6) (oi := ⟨some 42, _, _, _, _, _⟩) (v := ?visl6) rfl (by kernel_rfl) (by kernel_rfl) (by kernel_rfl) (fun _ _ _ h => h) (Or.inl ⟨by kernel_rfl, ?yisl6⟩) (by assumption) ?risl6
      case yisl6 =>
        intro w hSw
        try dsimp only at hSw
        first | (go_simp; done) | (go_simp; with_reducible rfl)
      try simp only [Act.put, List.setIfInBounds_toArray, List.set_cons_zero, List.set_cons_succ]
      refine wpAnyH_take (i := 7) (oi := ⟨some 43, _, _, _, _, _⟩) (v := ?visl7) rfl (by kernel_rfl) (by kernel_rfl) (by kernel_rfl) (fun _ _ _ h => h) (Or.inl ⟨by kernel_rfl, ?yisl7⟩) (by assumption) ?risl7
      case yisl7 =>
        intro w hSw
        try dsimp only at hSw
        first | (go_simp; done) | (go_simp; with_reducible rfl)
      try simp only [Act.put, List.setIfInBounds_toArray, List.set_cons_zero, List.set_cons_succ]
      refine wpAnyH_take (i := 8) (oi := ⟨some 44, _, _, _, _, _⟩) (v := ?visl8) rfl (by kernel_rfl) (by kernel_rfl) (by kernel_rfl) (fun _ _ _ h => h) (Or.inl ⟨by kernel_rfl, ?yisl8⟩) (by assumption) ?risl8
      case yisl8 =>
        intro w hSw
        try dsimp only at hSw
        first | (go_simp; done) | (go_simp; with_reducible rfl)
      try simp only [Act.put, List.setIfInBounds_toArray, List.set_cons_zero, List.set_cons_succ]
      refine wpAnyH_take (i := 9) (oi := ⟨some 45, _, _, _, _, _⟩) (v := ?visl9) rfl (by kernel_rfl) (by kernel_rfl) (by kernel_rfl) (fun _ _ _ h => h) (Or.inl ⟨by kernel_rfl, ?yisl9⟩) (by assumption) ?risl9
      case yisl9 =>
        intro w hSw
        try dsimp only at hSw
        first | (go_simp; done) | (go_simp; with_reducible rfl)
      try simp only [Act.put, List.setIfInBounds_toArray, List.set_cons_zero, List.set_cons_succ]
      refine wpAnyH_take (i := 10) (oi := ⟨some 46, _, _, _, _, _⟩) (v := ?visl10) rfl (by kernel_rfl) (by kernel_rfl) (by kernel_rfl) (fun _ _ _ h => h) (Or.inl ⟨by kernel_rfl, ?yisl10⟩) (by assumption) ?risl10
      case yisl10 =>
        intro w hSw
        try dsimp only at hSw
        first | (go_simp; done) | (go_simp; with_reducible rfl)
      try simp only [Act.put, List.setIfInBounds_toArray, List.set_cons_zero, List.set_cons_succ]
      refine wpAnyH_take (i := 11) (oi := ⟨some 47, _, _, _, _, _⟩) (v := ?visl11) rfl (by kernel_rfl) (by kernel_rfl) (by kernel_rfl) (fun _ _ _ h => h) (Or.inl ⟨by kernel_rfl, ?yisl11⟩) (by assumption) ?risl11
      case yisl11 =>
        intro w hSw
        try dsimp only at hSw
        first | (go_simp; done) | (go_simp; with_reducible rfl)
      try simp only [Act.put, List.setIfInBounds_toArray, List.set_cons_zero, List.set_cons_succ]
      refine wpAnyH_take (i := 12) (oi := ⟨some 48, _, _, _, _, _⟩) (v := ?visl12) rfl (by kernel_rfl) (by kernel_rfl) (by kernel_rfl) (fun _ _ _ h => h) (Or.inl ⟨by kernel_rfl, ?yisl12⟩) (by assumption) ?risl12
      case yisl12 =>
        intro w hSw
        try dsimp only at hSw
        first | (go_simp; done) | (go_simp; with_reducible rfl)
      try simp only [Act.put, List.setIfInBounds_toArray, List.set_cons_zero, List.set_cons_succ]
      refine wpAnyH_take (i := 14) (oi := ⟨some 50, _, _, _, _, _⟩) (v := ?visl14) rfl (by kernel_rfl) (by kernel_rfl) (by kernel_rfl) (fun _ _ _ h => h) (Or.inl ⟨by kernel_rfl, ?yisl14⟩) (by assumption) ?risl14
      case yisl14 =>
        intro w hSw
        try dsimp only at hSw
        first | (go_simp; done) | (go_simp; with_reducible rfl)
      try simp only [Act.put, List.setIfInBounds_toArray, List.set_cons_zero, List.set_cons_succ]
      refine wpAnyH_ready (rs := [13]) (by kernel_rfl) (by simp) ?_
      refine AllReadyH.cons (i := 13) (o := ⟨some 49, _, _, _, _, _⟩) rfl (fun K hK => ?_) AllReadyH.nil
      go_simp
      refine (HRF.out _).mono ?_
      rintro e w5 ⟨rfl, hb5⟩
      go_wp2_with fail
      refine hK.out _ _ ?_ (fun hHeld => ?_)
      · exact kept4 (by assumption) hb5
      clear hK K
      try simp only [Act.put, List.setIfInBounds_toArray, List.set_cons_zero, List.set_cons_succ]
      refine wpAnyH_take (i := 15) (oi := ⟨some 51, _, _, _, _, _⟩) (v := ?visl15) rfl (by kernel_rfl) (by kernel_rfl) (by kernel_rfl) (fun _ _ _ h => h) (Or.inl ⟨by kernel_rfl, ?yisl15⟩) (by assumption) ?risl15
      case yisl15 =>
        intro w hSw
        try dsimp only at hSw
        first | (go_simp; done) | (go_simp; with_reducible rfl)
      try simp only [Act.put, List.setIfInBounds_toArray, List.set_cons_zero, List.set_cons_succ]
      refine wpAnyH_take (i := 16) (oi := ⟨some 52, _, _, _, _, _⟩) (v := ?visl16) rfl (by kernel_rfl) (by kernel_rfl) (by kernel_rfl) (fun _ _ _ h => h) (Or.inl ⟨by kernel_rfl, ?yisl16⟩) (by assumption) ?risl16
      case yisl16 =>
        intro w hSw
        try dsimp only at hSw
        first | (go_simp; done) | (go_simp; with_reducible rfl)
      try simp only [Act.put, List.setIfInBounds_toArray, List.set_cons_zero, List.set_cons_succ]
      refine wpAnyH_done (by kernel_rfl) ?_ _
      go_wp2_with fail
      exact ⟨⟨k + 1, by omega, by push_cast; rfl, HB1.out.drew.trans (hb5.mono (show w.heap.size + 1 ≤ w4.drew.heap.size from by have := HB1.out.size; have := hW0s.out; show _ ≤ w4.heap.size; omega))⟩, by simp only [intOf]; omega⟩
    · have t1 : decide (k < ts.length) = false := decide_eq_false hlt
      obtain rfl : k = ts.length := by omega
      have HT := Lib.hid (fun w1 (hb : Below w.heap.size w w1) => term_no (ts.length : Int) (.inr (by omega)) (HD.out.keep hb))
      have HT2 := Lib.hid (fun w1 (hb : Below w.heap.size w w1) => term_no (-1) (.inl (by omega)) (HD.out.keep hb))
      have HL := Lib.hid (fun w1 (hb : Below w.heap.size w w1) => len_any (HD.out.keep hb))
      have c1 : wr.cell? ⟨w.heap.size, 1, none⟩ = some (.slice a ts.length cap) := (HB.out.cell (p := ⟨w.heap.size, 1, none⟩) (by simp)).trans HH.out.2
      clear hrow
      go_wp2_with fail
      refine (HT.out wr HB0.out).mono ?_
      rintro e w2 ⟨rfl, rfl⟩
      go_wp2_with fail
      refine (HT2.out wr HB0.out).mono ?_
      rintro e w2 ⟨rfl, rfl⟩
      go_wp2_with fail
      have hE : ∀ w, (Go.binOp BinOp.eql 39 .nilIface .nilIface).run Try.prog w = .ok (.bool true) w := fun w => by kernel_rfl
      have hEG : ∀ w, (Go.eqGuard BinOp.eql 39 (.tmp 74) (.const .nilIface) .nilIface .nilIface).run Try.prog w = .ok () w := fun w => by kernel_rfl
      have hEG2 : ∀ w, (Go.eqGuard BinOp.eql 39 (.tmp 78) (.const .nilIface) .nilIface .nilIface).run Try.prog w = .ok () w := fun w => by kernel_rfl
      go_quiet ((refine Calls.quiet_of_same ((HL.out _ (below_drewN HB0.out _)).mono (fun e w' hw => ⟨hw.1, hw.2.symm⟩))))
      go_wp2_with fail
      go_ret
      exact ⟨rfl, below_drewN HB0.out _⟩
end Go.Proofs.Ytghimladdioajaa
