/- The law NtReads: its walk. Every string and place. -/
import Derived.Test.YtbchkhjkajagfaaDoorNtAwake
import Derived.Test.YtbchkhjkajagfaaDoorNtRRead3
import Derived.Test.YtbchkhjkajagfaaDoorPkD
import Derived.Test.YtbchkhjkajagfaaDoorPkA
namespace Go.Proofs.YtbchkhjkajagfaaDoor
open Go Go.RowKit
set_option linter.unusedVariables false
set_option linter.unusedSimpArgs false
set_option maxRecDepth 100000
theorem SgAt.row {l : List Int} {a : Option Addr} {c X : Nat} {w : World} (h : SgAt l a c X w) : SgRow l a c w := by
  rcases h with h | ⟨g, h1, h2, h3, h4⟩
  · exact .inl h
  · exact .inr ⟨g, h1, h2, h3⟩
theorem eq_refl_T (X : Tm) (w : World) : (Go.binOp BinOp.eql 36 (refT X) (refT X)).run Tryd.prog w = .ok (.bool true) w := by
  rw [eq_refT]
  have : eqD X X = true := by unfold eqD; simp [sameS]
  rw [this]
theorem read_kinds {G : Tm → Bool} {l : List Int} {i j : Nat} {c : Int} {o : Option Tm} (h : readT G l i = (o, j, c)) : (o = none → c ≠ 0) ∧ (c = 1 ∨ c = 3 ∨ c = 0) := by
  unfold readT at h
  split at h
  · injection h with h1 h2
    injection h2 with h2 h3
    exact ⟨fun _ => by omega, .inl h3.symm⟩
  · split at h
    · injection h with h1 h2
      injection h2 with h2 h3
      exact ⟨fun e => (by rw [e] at h1; cases h1), .inr (.inr h3.symm)⟩
    · injection h with h1 h2
      injection h2 with h2 h3
      exact ⟨fun _ => by omega, .inr (.inl h3.symm)⟩
set_option maxHeartbeats 12800000 in
theorem ntreads_walk (s : ByteArray) (a : Int) (w : World) (he : Esc w) (hm : MaxV w) (hs : s.size ≤ 9223372036854775807) (a0 : 0 ≤ a) (a255 : a ≤ 255) : Calls Tryd.prog 3 #[.string s, .int .u8 a] w fun e w' => e = .returned (.bool true) ∧ Below w.heap.size w w' := by
  obtain ⟨G, hG⟩ := good_fn
  have HA := Lib.hid (fun w' (hb : Below w.heap.size w w') => nawake_any hG w' (he.below he.lt hb) (hm.below hb))
  have HEs := Lib.hid he
  have HMs := Lib.hid hm
  have HGF := Lib.hid hG
  clear he hm hG
  by_cases h1 : (300 : Int) < s.size
  · go_enter Tryd.func3, Tryd.ntmps3
    go_wp2_with fail
    refine (HA.out _ (Below.refl _ _)).mono ?_
    rintro e w1 ⟨rfl, hb1⟩
    go_wp2_with fail
    refine (HA.out _ hb1).mono ?_
    rintro e w2 ⟨rfl, hb2⟩
    go_wp2_with fail
    go_ret
    exact ⟨rfl, hb1.trans (hb2.mono hb1.size)⟩
  have a3 : (s.size : Int) ≤ 300 := by omega
  clear h1 hs
  obtain ⟨l, r, hr⟩ := read_some s.data.toList
  have hll := read_len hr
  have e1 : s.data.toList.length = s.size := rfl
  have hl3 : l.length ≤ 300 := by omega
  have HSG := Lib.hid hr.2.1
  clear hll e1
  rcases r with _ | ⟨x, r⟩
  · have NW := Lib.hid (fun w => new_ok s l w hr (by omega))
    have SG := Lib.hid (fun w => signs_row s l w hr (by omega))
    clear hr
    obtain ⟨K, hK⟩ : ∃ K : Nat, (K : Int) = a % ((l.length : Int) + 1) := ⟨(a % ((l.length : Int) + 1)).toNat, by have := Int.emod_nonneg a (show ((l.length : Int) + 1) ≠ 0 by omega); omega⟩
    have hK2 : K ≤ l.length := by have := Int.emod_lt_of_pos a (show 0 < ((l.length : Int) + 1) by omega); omega
    have hmod := hK.symm
    clear hK
    go_enter Tryd.func3, Tryd.ntmps3
    go_wp2_with fail
    refine (HA.out _ (Below.refl _ _)).mono ?_
    rintro e w1 ⟨rfl, hb1⟩
    go_wp2_with fail
    refine (SG.out _).mono ?_
    rintro e w2 ⟨a1, c1, rfl, ho, hb2⟩
    have HB := Lib.hid (hb1.trans (hb2.mono hb1.size))
    have HO := Lib.hid ho
    clear hb1 hb2 ho
    go_wp2_with fail
    refine (NW.out _).mono ?_
    rintro e w5 ⟨X, g, cap, rfl, hS, hX, hg, hb⟩
    have hXw : w.heap.size ≤ X := by have := HB.out.size; omega
    replace HB := Lib.hid (HB.out.trans (hb.mono HB.out.size))
    replace HO := Lib.hid (SgAt.of HO.out hb hX)
    have HS := Lib.hid hS
    clear hb hS
    have hX0 : 0 < X := by have := HEs.out.lt; omega
    have HT := Lib.hid (show St l 0 X g cap a1 c1 w w5 from ⟨HS.out, HO.out, HB.out, hXw, HSG.out, hl3⟩)
    have HE8 := Lib.hid (fun wy (hb : Below w.heap.size w wy) => Env.of HEs.out HMs.out hXw hb)
    clear HS HB HO HA
    obtain ⟨R, hR⟩ : ∃ R, R = readT G l K := ⟨_, rfl⟩
    have HR := Lib.hid hR
    have HRA := Lib.hid (fun wr (h1 : St l K X g cap a1 c1 w wr) => read_any HGF.out h1.1 (HE8.out _ h1.2.2.1).1 hX0 HSG.out (by omega) (fun Y j hf => (form_facts HSG.out (by omega) hf).2.2.1) (fun w' hk => ((HE8.out _ h1.2.2.1).sk hk).max))
    have HRB := Lib.hid (fun wr (q : Nat) (h1 : St l q X g cap a1 c1 w wr) => rread_any HGF.out K h1.2.1.row HSG.out (by omega) hK2)
    rw [← hR] at HRA HRB
    clear hR
    obtain ⟨o, j, c⟩ := R
    have hkinds := read_kinds HR.out.symm
    unfold ReadEnd at HRA
    unfold RReadEnd at HRB
    dsimp only at HRA HRB
    go_wp2_with fail
    refine (back_st K _ HT.out hK2).mono ?_
    rintro e w8 ⟨rfl, ht⟩
    replace HT := Lib.hid ht
    clear ht
    cases o with
    | none =>
      have hc := hkinds.1 rfl
      have t1 : (c != 0) = true := by simpa using hc
      have t2 : (c == 0) = false := by simpa using hc
      have hE : ∀ w, (Go.binOp BinOp.eql 32 .nilIface .nilIface).run Tryd.prog w = .ok (.bool true) w := fun w => by kernel_rfl
      have hEG : ∀ w, (Go.eqGuard BinOp.eql 32 (.tmp 80) (.const .nilIface) .nilIface .nilIface).run Tryd.prog w = .ok () w := fun w => by kernel_rfl
      clear hkinds hc
      dsimp only [Option.isSome] at HRA
      unfold refO at HRB
      go_wp2_with fail
      refine (HRA.out _ HT.out).mono ?_
      rintro e w9 ⟨rfl, hs9, hk9⟩
      have HT9 : Hid (St l K X g cap a1 c1 w w9) := Lib.hid ⟨hs9, HT.out.2.1.sk hk9, HT.out.2.2.1.trans (hk9.1.mono HT.out.2.2.2.1), HT.out.2.2.2⟩
      clear hs9 hk9 HT
      go_wp2_with fail
      refine (HRB.out _ K HT9.out).mono ?_
      rintro e w10 ⟨rfl, hb10⟩
      have HT10 := Lib.hid ((HT9.out.below hb10).below ((Below.refl _ _).alloc (Nat.le_refl _) (.cells #[.int .i64 0, .string ⟨#[]⟩, .string ⟨#[]⟩, .string ⟨#[]⟩] 36)))
      clear hb10 HT9
      go_wp2_with fail
      refine (place_any l _ X g cap _ HT10.out.1).mono ?_
      rintro e w12 ⟨rfl, rfl⟩
      go_wp2_with fail
      go_ret
      exact ⟨rfl, HT10.out.2.2.1⟩
    | some Y =>
      have hrf := read_facts HSG.out (by omega) HR.out.symm
      have hc0 : c = 0 := hrf.1
      subst hc0
      have HKY := Lib.hid (good_signs HGF.out hrf.2.2.2.1 hrf.2.2.2.2.2).1
      have HRE := Lib.hid (fun w => ref_any Y HKY.out w)
      have QE := eq_refl_T Y
      unfold refT at HRE QE
      clear hkinds hrf
      dsimp only [Option.isSome] at HRA
      unfold refO at HRB
      dsimp only at HRB
      obtain ⟨TT, YY, eY⟩ := key_iface HKY.out
      rw [eY] at HRA HRE
      clear eY
      go_wp2_with fail
      refine (HRA.out _ HT.out).mono ?_
      rintro e w9 ⟨rfl, hs9, hk9⟩
      have HT9 : Hid (St l j X g cap a1 c1 w w9) := Lib.hid ⟨hs9, HT.out.2.1.sk hk9, HT.out.2.2.1.trans (hk9.1.mono HT.out.2.2.2.1), HT.out.2.2.2⟩
      clear hs9 hk9 HT
      go_wp2_with fail
      refine (HRB.out _ j HT9.out).mono ?_
      rintro e w10 ⟨rfl, hb10⟩
      have HT10 := Lib.hid (HT9.out.below hb10)
      obtain ⟨W11, hW11⟩ : ∃ W11, W11 = w10.alloc (.cells #[.int .i64 (kindV Y), .string (text0 Y), .string (text1 Y), .string (text2 Y)] 36) := ⟨_, rfl⟩
      have HT11 : Hid (St l j X g cap a1 c1 w W11) := Lib.hid (by rw [hW11]; exact HT10.out.below ((Below.refl _ _).alloc (Nat.le_refl _) _))
      have hx : W11.heap[w10.heap.size]? = some (.cells #[.int .i64 (kindV Y), .string (text0 Y), .string (text1 Y), .string (text2 Y)] 36 (0, 0)) := by rw [hW11]; exact blk_new w10 _ _
      have HW11 := Lib.hid hW11
      have HX := Lib.hid hx
      clear hb10 HT9 HT10 hW11 hx
      go_wp2_with fail
      rw [← HW11.out]
      refine wp_region_held_drew (S := (fun w' => w'.heap[w10.heap.size]? = some (.cells #[.int .i64 (kindV Y), .string (text0 Y), .string (text1 Y), .string (text2 Y)] 36 (0, 0)))) (by kernel_rfl) ?hSrds0 (fun hHeld => ?_)
      case hSrds0 => exact HX.out
      refine wpAnyH_take (i := 0) (oi := ⟨some 88, _, _, _, _, _⟩) (v := ?vrds0) rfl (by kernel_rfl) (by kernel_rfl) (by kernel_rfl) (fun _ _ _ h => h) (Or.inl ⟨by kernel_rfl, ?yrds0⟩) (by assumption) ?rrds0
      case yrds0 =>
        intro w hSw
        try dsimp only at hSw
        obtain ⟨d0, d1, d2, d3, -⟩ := blk4 hSw
        first | (go_simp; done) | (go_simp; with_reducible rfl)
      try simp only [Act.put, List.setIfInBounds_toArray, List.set_cons_zero, List.set_cons_succ]
      refine wpAnyH_take (i := 2) (oi := ⟨some 90, _, _, _, _, _⟩) (v := ?vrds2) rfl (by kernel_rfl) (by kernel_rfl) (by kernel_rfl) (fun _ _ _ h => h) (Or.inl ⟨by kernel_rfl, ?yrds2⟩) (by assumption) ?rrds2
      case yrds2 =>
        intro w hSw
        try dsimp only at hSw
        obtain ⟨d0, d1, d2, d3, -⟩ := blk4 hSw
        first | (go_simp; done) | (go_simp; with_reducible rfl)
      try simp only [Act.put, List.setIfInBounds_toArray, List.set_cons_zero, List.set_cons_succ]
      refine wpAnyH_ready (rs := [1]) (by kernel_rfl) (by simp) ?_
      refine AllReadyH.cons (i := 1) (o := ⟨some 89, _, _, _, _, _⟩) rfl (fun K hK => ?_) AllReadyH.nil
      go_simp
      refine (HRE.out _).mono ?_
      rintro e w13 ⟨rfl, hb13⟩
      have HT13 := Lib.hid (HT11.out.drew.below hb13)
      go_wp2_with fail
      refine hK.out _ _ ?_ (fun hHeld => ?_)
      · exact blk_below (by assumption) hb13
      clear hK K
      try simp only [Act.put, List.setIfInBounds_toArray, List.set_cons_zero, List.set_cons_succ]
      refine wpAnyH_take (i := 3) (oi := ⟨some 91, _, _, _, _, _⟩) (v := ?vrds3) rfl (by kernel_rfl) (by kernel_rfl) (by kernel_rfl) (fun _ _ _ h => h) (Or.inl ⟨by kernel_rfl, ?yrds3⟩) (by assumption) ?rrds3
      case yrds3 =>
        intro w hSw
        try dsimp only at hSw
        obtain ⟨d0, d1, d2, d3, -⟩ := blk4 hSw
        first | (go_simp; done) | (go_simp; with_reducible rfl)
      try simp only [Act.put, List.setIfInBounds_toArray, List.set_cons_zero, List.set_cons_succ]
      refine wpAnyH_take (i := 4) (oi := ⟨some 92, _, _, _, _, _⟩) (v := ?vrds4) rfl (by kernel_rfl) (by kernel_rfl) (by kernel_rfl) (fun _ _ _ h => h) (Or.inl ⟨by kernel_rfl, ?yrds4⟩) (by assumption) ?rrds4
      case yrds4 =>
        intro w hSw
        try dsimp only at hSw
        obtain ⟨d0, d1, d2, d3, -⟩ := blk4 hSw
        first | (go_simp; done) | (go_simp; with_reducible rfl)
      try simp only [Act.put, List.setIfInBounds_toArray, List.set_cons_zero, List.set_cons_succ]
      refine wpAnyH_take (i := 5) (oi := ⟨some 93, _, _, _, _, _⟩) (v := ?vrds5) rfl (by kernel_rfl) (by kernel_rfl) (by kernel_rfl) (fun _ _ _ h => h) (Or.inl ⟨by kernel_rfl, ?yrds5⟩) (by assumption) ?rrds5
      case yrds5 =>
        intro w hSw
        try dsimp only at hSw
        obtain ⟨d0, d1, d2, d3, -⟩ := blk4 hSw
        first | (go_simp; done) | (go_simp; with_reducible rfl)
      try simp only [Act.put, List.setIfInBounds_toArray, List.set_cons_zero, List.set_cons_succ]
      refine wpAnyH_take (i := 7) (oi := ⟨some 95, _, _, _, _, _⟩) (v := ?vrds7) rfl (by kernel_rfl) (by kernel_rfl) (by kernel_rfl) (fun _ _ _ h => h) (Or.inl ⟨by kernel_rfl, ?yrds7⟩) (by assumption) ?rrds7
      case yrds7 =>
        intro w hSw
        try dsimp only at hSw
        obtain ⟨d0, d1, d2, d3, -⟩ := blk4 hSw
        first | (go_simp; done) | (go_simp; with_reducible rfl)
      try simp only [Act.put, List.setIfInBounds_toArray, List.set_cons_zero, List.set_cons_succ]
      refine wpAnyH_ready (rs := [6]) (by kernel_rfl) (by simp) ?_
      refine AllReadyH.cons (i := 6) (o := ⟨some 94, _, _, _, _, _⟩) rfl (fun K hK => ?_) AllReadyH.nil
      go_simp
      refine (place_any l j X g cap _ HT13.out.1).mono ?_
      rintro e w14 ⟨rfl, rfl⟩
      go_wp2_with fail
      refine hK.out _ _ ?_ (fun hHeld => ?_)
      · exact (by assumption)
      clear hK K
      try simp only [Act.put, List.setIfInBounds_toArray, List.set_cons_zero, List.set_cons_succ]
      refine wpAnyH_take (i := 8) (oi := ⟨some 96, _, _, _, _, _⟩) (v := ?vrds8) rfl (by kernel_rfl) (by kernel_rfl) (by kernel_rfl) (fun _ _ _ h => h) (Or.inl ⟨by kernel_rfl, ?yrds8⟩) (by assumption) ?rrds8
      case yrds8 =>
        intro w hSw
        try dsimp only at hSw
        obtain ⟨d0, d1, d2, d3, -⟩ := blk4 hSw
        first | (go_simp; done) | (go_simp; with_reducible rfl)
      try simp only [Act.put, List.setIfInBounds_toArray, List.set_cons_zero, List.set_cons_succ]
      refine wpAnyH_take (i := 9) (oi := ⟨some 97, _, _, _, _, _⟩) (v := ?vrds9) rfl (by kernel_rfl) (by kernel_rfl) (by kernel_rfl) (fun _ _ _ h => h) (Or.inl ⟨by kernel_rfl, ?yrds9⟩) (by assumption) ?rrds9
      case yrds9 =>
        intro w hSw
        try dsimp only at hSw
        obtain ⟨d0, d1, d2, d3, -⟩ := blk4 hSw
        first | (go_simp; done) | (go_simp; with_reducible rfl)
      try simp only [Act.put, List.setIfInBounds_toArray, List.set_cons_zero, List.set_cons_succ]
      refine wpAnyH_take (i := 10) (oi := ⟨some 4, _, _, _, _, _⟩) (v := ?vrds10) rfl (by kernel_rfl) (by kernel_rfl) (by kernel_rfl) (fun _ _ _ h => h) (Or.inl ⟨by kernel_rfl, ?yrds10⟩) (by assumption) ?rrds10
      case yrds10 =>
        intro w hSw
        try dsimp only at hSw
        obtain ⟨d0, d1, d2, d3, -⟩ := blk4 hSw
        first | (go_simp; done) | (go_simp; with_reducible rfl)
      try simp only [Act.put, List.setIfInBounds_toArray, List.set_cons_zero, List.set_cons_succ]
      refine wpAnyH_done (by kernel_rfl) ?_ _
      go_wp2_with fail
      go_ret
      exact ⟨rfl, HT13.out.2.2.1⟩
  · have NW := Lib.hid (fun w => new_bad s l (x :: r) w hr (by simp) (by omega))
    have SG := Lib.hid (fun w => signs_any s l (x :: r) w hr (by omega))
    clear hr
    go_enter Tryd.func3, Tryd.ntmps3
    go_wp2_with fail
    refine (HA.out _ (Below.refl _ _)).mono ?_
    rintro e w1 ⟨rfl, hb1⟩
    go_wp2_with fail
    refine (SG.out _).mono ?_
    rintro e w2 ⟨a1, c1, rfl, ho, hb2⟩
    have HB := Lib.hid (hb1.trans (hb2.mono hb1.size))
    clear hb1 hb2 ho
    go_wp2_with fail
    refine (NW.out _).mono ?_
    rintro e w5 ⟨rfl, hb⟩
    replace HB := Lib.hid (HB.out.trans (hb.mono HB.out.size))
    clear hb
    go_wp2_with fail
    go_ret
    exact ⟨rfl, HB.out⟩
end Go.Proofs.YtbchkhjkajagfaaDoor
