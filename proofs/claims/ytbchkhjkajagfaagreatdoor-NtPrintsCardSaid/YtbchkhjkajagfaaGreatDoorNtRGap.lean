/- Contracts over this seat's program: the document's gap, over. -/
import Derived.Test.YtbchkhjkajagfaaGreatDoorNtRWord
import Derived.Test.YtbchkhjkajagfaaGreatDoorNtMore
namespace Go.Proofs.YtbchkhjkajagfaaGreatDoor
open Go Go.RowKit
set_option linter.unusedVariables false
set_option linter.unusedSimpArgs false
set_option maxRecDepth 100000
set_option maxHeartbeats 3200000 in
theorem rgap_any {l : List Int} {a : Option Addr} {cs : Nat} {w : World} (i : Nat) (h : SgRow l a cs w) (hl : ∀ n ∈ l, SignP n) (hb : l.length ≤ 1000000) (hi : i ≤ l.length) :
    Calls Tryz.prog 27 #[.slice a l.length cs, .int .i64 i] w fun e w' => e = .returned (.int .i64 (gapT l i)) ∧ w = w' := by
  have HIN := Lib.hid (fun q (h1 : i ≤ q) (h2 : q < i + twN blankC l i) => twk_in h1 h2)
  have HOUT := Lib.hid (twk_out (C := blankC) (by decide) l i)
  have hN := twk_le (C := blankC) hi
  have HST := Lib.hid (fun (q : Nat) (c : Int) (hc : 0 ≤ c ∧ c ≤ 255) (hi : q ≤ 2000000) => stands_any q c hc h hl hb hi)
  unfold gapT
  obtain ⟨r, hr⟩ : ∃ r, r = i + twN blankC l i := ⟨_, rfl⟩
  have hir : i ≤ r := by omega
  rw [← hr] at HIN HOUT hN ⊢
  clear hr h hl
  go_enter Tryz.func27, Tryz.ntmps27
  go_wp2_with fail
  go_loopw [1] (fun v wr => ∃ q : Nat, i ≤ q ∧ q ≤ r ∧ v = .int .i64 q ∧ wr = w) (fun v _ => r - (intOf v).toNat)
  case atStart => exact ⟨i, by omega, hir, rfl, rfl⟩
  case round =>
    obtain ⟨q, hiq, hqr, rfl, rfl⟩ := hrel
    have HS1 := Lib.hid (HST.out q 32 (by omega) (by omega))
    have HS2 := Lib.hid (HST.out q 9 (by omega) (by omega))
    by_cases hin : q < r
    · have hC := HIN.out q hiq hin
      unfold blankC at hC
      obtain ⟨x, hx⟩ : ∃ x, x = pk l q := ⟨_, rfl⟩
      rw [← hx] at HS1 HS2 hC
      clear hx
      by_cases h32 : x = 32
      · rw [decide_eq_true h32] at HS1
        clear h32 hC
        go_wp2_with fail
        refine HS1.out.mono ?_
        rintro e w' ⟨rfl, rfl⟩
        go_wp2_with fail
        exact ⟨⟨q + 1, by omega, by omega, by push_cast; rfl, trivial⟩, by simp only [intOf]; omega⟩
      · have h9 : x = 9 := by simpa [h32] using hC
        rw [decide_eq_false h32] at HS1
        rw [decide_eq_true h9] at HS2
        clear h32 hC h9
        go_wp2_with fail
        refine HS1.out.mono ?_
        rintro e w' ⟨rfl, rfl⟩
        go_wp2_with fail
        refine HS2.out.mono ?_
        rintro e w' ⟨rfl, rfl⟩
        go_wp2_with fail
        exact ⟨⟨q + 1, by omega, by omega, by push_cast; rfl, trivial⟩, by simp only [intOf]; omega⟩
    · obtain rfl : q = r := by omega
      have hC := HOUT.out
      unfold blankC at hC
      simp only [Bool.or_eq_false_iff, decide_eq_false_iff_not] at hC
      rw [decide_eq_false hC.1] at HS1
      rw [decide_eq_false hC.2] at HS2
      clear hC HOUT
      go_wp2_with fail
      refine HS1.out.mono ?_
      rintro e w' ⟨rfl, rfl⟩
      go_wp2_with fail
      refine HS2.out.mono ?_
      rintro e w' ⟨rfl, rfl⟩
      go_wp2_with fail
      go_ret
      exact ⟨rfl, rfl⟩
/-- a line's end at a place, nothing passed over -/
def rlineT (l : List Int) (r : Nat) : Nat × Bool :=
  if pk l r = 13 ∧ pk l (r + 1) = 10 then (r + 2, true) else if pk l r = 10 then (r + 1, true) else (r, decide (l.length ≤ r))
theorem rover_line (l : List Int) (i : Nat) : overT l i = rlineT l (noteT l i) := rfl
set_option maxHeartbeats 6400000 in
theorem rover_any {l : List Int} {a : Option Addr} {cs : Nat} {w : World} (i : Nat) (h : SgRow l a cs w) (hl : ∀ n ∈ l, SignP n) (hb : l.length ≤ 1000000) (hi : i ≤ l.length) :
    Calls Tryz.prog 25 #[.slice a l.length cs, .int .i64 i] w fun e w' => e = .returned (.tuple #[.int .i64 (overT l i).1, .bool (overT l i).2]) ∧ w = w' := by
  have HST := Lib.hid (fun (q : Nat) (c : Int) (hc : 0 ≤ c ∧ c ≤ 255) (hi : q ≤ 2000000) => stands_any q c hc h hl hb hi)
  have HG := Lib.hid (rgap_any i h hl hb hi)
  have HPK := Lib.hid (fun q => pk_ge hl q)
  have HC := Lib.hid (fun q (hq : q < l.length) => h.at_ hq)
  have HNE : Hid (∀ q, q < l.length → pk l q ≠ -1) := Lib.hid (fun q hq e => by have := hl _ (List.getElem_mem hq); rw [← pk_yes hq, e] at this; exact absurd this (by decide))
  obtain ⟨hg1, hg2⟩ := gap_facts l hi
  have hnf := note_facts l hi
  rw [rover_line]
  obtain ⟨q0, hq0⟩ : ∃ q0, q0 = gapT l i := ⟨_, rfl⟩
  have hnt : noteT l i = if pk l q0 = 35 then q0 + twN noteC l q0 else q0 := by rw [hq0]; rfl
  rw [← hq0] at HG hg1 hg2
  have HS1 := Lib.hid (HST.out q0 35 (by omega) (by omega))
  clear h hl
  by_cases h35 : pk l q0 = 35
  · rw [if_pos h35] at hnt
    rw [decide_eq_true h35] at HS1
    have HIN := Lib.hid (fun q (h1 : q0 ≤ q) (h2 : q < q0 + twN noteC l q0) => twk_in h1 h2)
    have HOUT := Lib.hid (twk_out (C := noteC) (by decide) l q0)
    obtain ⟨r, hr⟩ : ∃ r, r = noteT l i := ⟨_, rfl⟩
    rw [← hnt, ← hr] at HIN HOUT
    rw [← hr] at hnf ⊢
    have hqr : q0 ≤ r := by omega
    clear hnt hr h35 hq0
    go_enter Tryz.func25, Tryz.ntmps25
    go_wp2_with fail
    refine HG.out.mono ?_
    rintro e w' ⟨rfl, rfl⟩
    go_wp2_with fail
    refine HS1.out.mono ?_
    rintro e w' ⟨rfl, rfl⟩
    go_wp2_with fail
    go_loopw [6] (fun v wr => ∃ q : Nat, q0 ≤ q ∧ q ≤ r ∧ v = .int .i64 q ∧ wr = w) (fun v _ => r - (intOf v).toNat)
    case atStart => exact ⟨q0, by omega, hqr, rfl, rfl⟩
    case round =>
      obtain ⟨q, hiq, hq2, rfl, rfl⟩ := hrel
      by_cases hin : q < r
      · have hC := HIN.out q hiq hin
        have hql : q < l.length := by omega
        obtain ⟨g, rfl, hx⟩ := HC.out q hql
        obtain ⟨x0, x1⟩ := HPK.out q
        obtain ⟨x, hxx⟩ : ∃ x, x = pk l q := ⟨_, rfl⟩
        rw [← hxx] at hx hC x0 x1
        unfold noteC at hC
        simp only [Bool.and_eq_true, decide_eq_true_eq] at hC
        have t1 : (x != 10) = true := by simpa using hC.1
        have t0 : (q : Int) < (l.length : Int) := by omega
        clear hC hxx HST
        go_wp2_with fail
        exact ⟨⟨q + 1, by omega, by omega, by push_cast; rfl, trivial⟩, by simp only [intOf]; omega⟩
      · obtain rfl : q = r := by omega
        have hC := HOUT.out
        by_cases hql : q < l.length
        · obtain ⟨g, rfl, hx⟩ := HC.out q hql
          obtain ⟨x0, x1⟩ := HPK.out q
          have hs : pk l q = 10 := by
            unfold noteC at hC
            rcases (show pk l q = 10 ∨ pk l q = -1 from by
              by_cases h : pk l q = 10
              · exact .inl h
              · exact .inr (by simpa [h] using hC)) with h | h
            · exact h
            · exact absurd h (HNE.out q hql)
          have HS5 := Lib.hid (HST.out q 10 (by omega) (by omega))
          have HS3 := Lib.hid (HST.out q 13 (by omega) (by omega))
          rw [decide_eq_true hs] at HS5
          rw [decide_eq_false (by rw [hs]; decide)] at HS3
          have hF : rlineT l q = (q + 1, true) := by unfold rlineT; rw [if_neg (by omega), if_pos hs]
          have HFF := Lib.hid hF
          rw [hs] at hx
          have t0 : (q : Int) < (l.length : Int) := by omega
          clear hs hC hF x0 x1 HST HIN HOUT HC HPK HG HS1
          go_wp2_with fail
          refine HS3.out.mono ?_
          rintro e w' ⟨rfl, rfl⟩
          go_wp2_with fail
          refine HS5.out.mono ?_
          rintro e w' ⟨rfl, rfl⟩
          go_wp2_with fail
          refine bodyPost_ret (v := .tuple #[.int .i64 ((q : Int) + 1), .bool true]) (by simp [results, Tryz.results25, go_sem]) rfl ?_
          rw [HFF.out]
          exact ⟨by simp, rfl⟩
        · have HS5 := Lib.hid (HST.out q 10 (by omega) (by omega))
          have HS3 := Lib.hid (HST.out q 13 (by omega) (by omega))
          rw [pk_no (by omega), decide_eq_false (by decide)] at HS5 HS3
          have hF : rlineT l q = (q, true) := by unfold rlineT; rw [pk_no (by omega), if_neg (by omega), if_neg (by decide), decide_eq_true (by omega)]
          have HFF := Lib.hid hF
          have t0 : decide ((q : Int) < (l.length : Int)) = false := decide_eq_false (by omega)
          have t9 : (l.length : Int) ≤ (q : Int) := by omega
          clear hC hF HST HIN HOUT HC HPK HG HS1
          go_wp2_with fail
          refine HS3.out.mono ?_
          rintro e w' ⟨rfl, rfl⟩
          go_wp2_with fail
          refine HS5.out.mono ?_
          rintro e w' ⟨rfl, rfl⟩
          go_wp2_with fail
          refine bodyPost_ret (v := .tuple #[.int .i64 q, .bool true]) (by simp [results, Tryz.results25, go_sem]) rfl ?_
          rw [HFF.out]
          exact ⟨rfl, rfl⟩
  · rw [if_neg h35] at hnt
    rw [decide_eq_false h35] at HS1
    rw [hnt]
    obtain ⟨r, hr⟩ : ∃ r, r = q0 := ⟨_, rfl⟩
    rw [← hr] at HG HS1 hg2 ⊢
    clear hnt hq0 h35 hr hnf hg1 HPK HC
    obtain ⟨R, hRR⟩ : ∃ R, R = rlineT l r := ⟨_, rfl⟩
    rw [← hRR]
    have HRR := Lib.hid hRR
    clear hRR
    have HS3 := Lib.hid (HST.out r 13 (by omega) (by omega))
    have HS4 := Lib.hid (HST.out (r + 1) 10 (by omega) (by omega))
    have HS5 := Lib.hid (HST.out r 10 (by omega) (by omega))
    rw [show ((r + 1 : Nat) : Int) = (r : Int) + 1 from by push_cast; rfl] at HS4
    by_cases k13 : pk l r = 13
    · rw [decide_eq_true k13] at HS3
      by_cases k10 : pk l (r + 1) = 10
      · have HF : Hid (R = (r + 2, true)) := Lib.hid (by rw [HRR.out]; unfold rlineT; rw [if_pos ⟨k13, k10⟩])
        rw [decide_eq_true k10] at HS4
        clear k13 k10
        go_enter Tryz.func25, Tryz.ntmps25; go_wp2_with fail; refine HG.out.mono ?_; rintro e w' ⟨rfl, rfl⟩; go_wp2_with fail; refine HS1.out.mono ?_; rintro e w' ⟨rfl, rfl⟩; go_wp2_with fail
        refine HS3.out.mono ?_
        rintro e w' ⟨rfl, rfl⟩
        go_wp2_with fail
        refine HS4.out.mono ?_
        rintro e w' ⟨rfl, rfl⟩
        go_wp2_with fail
        refine bodyPost_ret (v := .tuple #[.int .i64 ((r : Int) + 2), .bool true]) (by simp [results, Tryz.results25, go_sem]) rfl ?_
        rw [HF.out]
        exact ⟨by simp, rfl⟩
      · have HF : Hid (R = (r, false)) := Lib.hid (by rw [HRR.out]; unfold rlineT; rw [if_neg (fun h => k10 h.2), if_neg (by rw [k13]; decide), decide_eq_false (by have := pk_lt k13 (by decide); omega)])
        have hlt : r < l.length := pk_lt k13 (by decide)
        rw [decide_eq_false k10] at HS4
        rw [decide_eq_false (by rw [k13]; decide)] at HS5
        have t9 : decide ((l.length : Int) ≤ (r : Int)) = false := decide_eq_false (by omega)
        clear k13 k10
        go_enter Tryz.func25, Tryz.ntmps25; go_wp2_with fail; refine HG.out.mono ?_; rintro e w' ⟨rfl, rfl⟩; go_wp2_with fail; refine HS1.out.mono ?_; rintro e w' ⟨rfl, rfl⟩; go_wp2_with fail
        refine HS3.out.mono ?_
        rintro e w' ⟨rfl, rfl⟩
        go_wp2_with fail
        refine HS4.out.mono ?_
        rintro e w' ⟨rfl, rfl⟩
        go_wp2_with fail
        refine HS5.out.mono ?_
        rintro e w' ⟨rfl, rfl⟩
        go_wp2_with fail
        refine bodyPost_ret (v := .tuple #[.int .i64 r, .bool false]) (by simp [results, Tryz.results25, go_sem, hlt]) rfl ?_
        rw [HF.out]
        exact ⟨rfl, rfl⟩
    · rw [decide_eq_false k13] at HS3
      by_cases k10 : pk l r = 10
      · have HF : Hid (R = (r + 1, true)) := Lib.hid (by rw [HRR.out]; unfold rlineT; rw [if_neg (fun h => k13 h.1), if_pos k10])
        rw [decide_eq_true k10] at HS5
        clear k13 k10
        go_enter Tryz.func25, Tryz.ntmps25; go_wp2_with fail; refine HG.out.mono ?_; rintro e w' ⟨rfl, rfl⟩; go_wp2_with fail; refine HS1.out.mono ?_; rintro e w' ⟨rfl, rfl⟩; go_wp2_with fail
        refine HS3.out.mono ?_
        rintro e w' ⟨rfl, rfl⟩
        go_wp2_with fail
        refine HS5.out.mono ?_
        rintro e w' ⟨rfl, rfl⟩
        go_wp2_with fail
        refine bodyPost_ret (v := .tuple #[.int .i64 ((r : Int) + 1), .bool true]) (by simp [results, Tryz.results25, go_sem]) rfl ?_
        rw [HF.out]
        exact ⟨by simp, rfl⟩
      · have HF : Hid (R = (r, decide (l.length ≤ r))) := Lib.hid (by rw [HRR.out]; unfold rlineT; rw [if_neg (fun h => k13 h.1), if_neg k10])
        rw [decide_eq_false k10] at HS5
        have t9 : decide ((l.length : Int) ≤ (r : Int)) = decide (l.length ≤ r) := decide_eq_decide.2 (by omega)
        clear k13 k10
        go_enter Tryz.func25, Tryz.ntmps25; go_wp2_with fail; refine HG.out.mono ?_; rintro e w' ⟨rfl, rfl⟩; go_wp2_with fail; refine HS1.out.mono ?_; rintro e w' ⟨rfl, rfl⟩; go_wp2_with fail
        refine HS3.out.mono ?_
        rintro e w' ⟨rfl, rfl⟩
        go_wp2_with fail
        refine HS5.out.mono ?_
        rintro e w' ⟨rfl, rfl⟩
        go_wp2_with fail
        refine bodyPost_ret (v := .tuple #[.int .i64 r, .bool (decide (l.length ≤ r))]) (by simp [results, Tryz.results25, go_sem, t9]) rfl ?_
        rw [HF.out]
        exact ⟨rfl, rfl⟩
end Go.Proofs.YtbchkhjkajagfaaGreatDoor
