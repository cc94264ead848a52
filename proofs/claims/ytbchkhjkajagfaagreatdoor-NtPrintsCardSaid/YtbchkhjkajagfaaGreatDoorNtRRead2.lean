/- Contract over this seat's program: the document's Read: a blank node, none of all. -/
import Derived.Test.YtbchkhjkajagfaaGreatDoorNtRRead
namespace Go.Proofs.YtbchkhjkajagfaaGreatDoor
open Go Go.RowKit
set_option linter.unusedVariables false
set_option linter.unusedSimpArgs false
set_option maxRecDepth 100000
set_option maxHeartbeats 12800000 in
theorem rread_blank {G : Tm → Bool} (hG : GoodFn G) {l : List Int} {a : Option Addr} {cs : Nat} {w : World} (p : Nat) (h : SgRow l a cs w) (hl : ∀ n ∈ l, SignP n) (hb : l.length ≤ 100000) (hp : p ≤ l.length) (h95 : pk l p = 95) :
    Calls Tryz.prog 26 #[.slice a l.length cs, .int .i64 p] w (RReadEnd w (readT G l p)) := by
  have HL := Lib.hid hl
  have HLB := Lib.hid hb
  have HGF := Lib.hid hG
  have HST := Lib.hid (fun (wr : World) (hw : Below w.heap.size w wr) (i : Nat) (c : Int) (hc : 0 ≤ c ∧ c ≤ 255) (hi : i ≤ 2000000) => stands_any i c hc (h.below hw) hl (by omega : l.length ≤ 1000000) hi)
  have HIR := Lib.hid (fun (wr : World) (hw : Below w.heap.size w wr) (q : Nat) (hq : q ≤ l.length) => riri4_any q (h.below hw) hl hb hq)
  have HWD := Lib.hid (fun (wr : World) (hw : Below w.heap.size w wr) (q : Nat) (u : Bool) (hq : q ≤ l.length) => rword_any q u (h.below hw) hl (by omega : l.length ≤ 1000000) hq)
  have HQU := Lib.hid (fun (wr : World) (hw : Below w.heap.size w wr) => rquoted_any l p _ cs a wr (h.below hw).rcls hl hb hp)
  obtain ⟨R, hR⟩ : ∃ R, R = readT G l p := ⟨_, rfl⟩
  have HR := Lib.hid hR
  rw [← hR]
  unfold RReadEnd
  obtain ⟨W1, hW1⟩ : ∃ W1, W1 = ((w.alloc (.cells #[.int .i64 0, .string ⟨#[]⟩, .string ⟨#[]⟩, .string ⟨#[]⟩] 27)).alloc (.cells #[.int .i64 0, .string ⟨#[]⟩, .string ⟨#[]⟩, .string ⟨#[]⟩] 27)) := ⟨_, rfl⟩
  have HB1 : Hid (RB w 0 ⟨#[]⟩ ⟨#[]⟩ ⟨#[]⟩ W1) := Lib.hid (by rw [hW1]; exact RB.start w)
  have HW1 := Lib.hid hW1
  have hp2 : (p : Int) ≤ 100000 := by omega
  clear h hl hG hW1 hR
  have HS := Lib.hid (HST.out W1 HB1.out.2.2 p 60 (by omega) (by omega))
  rw [decide_eq_false (by rw [h95]; decide)] at HS
  have HS2 := Lib.hid (HST.out W1 HB1.out.2.2 p 95 (by omega) (by omega))
  rw [decide_eq_true h95] at HS2
  have HS3 := Lib.hid (HST.out W1 HB1.out.2.2 (p + 1) 58 (by omega) (by omega))
  rw [show ((p + 1 : Nat) : Int) = (p : Int) + 1 from by push_cast; rfl] at HS3
  obtain ⟨x0, x1, x2, x3, xf⟩ := blk4 HB1.out.2.1
  have xf0 := xf 0
  have xf1 := xf 1
  have xf2 := xf 2
  have xf3 := xf 3
  obtain ⟨z0, z1, z2, z3, zf⟩ := blk4 HB1.out.1
  have zf0 := zf 0
  have zf1 := zf 1
  have zf2 := zf 2
  have zf3 := zf 3
  clear xf zf
  by_cases h58 : pk l (p + 1) = 58
  · have hq : p + 2 ≤ l.length := by have := pk_lt h58 (by decide); omega
    have HI := Lib.hid (fun wr hw => HWD.out wr hw (p + 2) true hq)
    rw [show ((p + 2 : Nat) : Int) = (p : Int) + 2 from by push_cast; rfl] at HI
    have HFO : Hid (formT l p = (some (.blank (tBytes (wordT l (p + 2) true).1)), (wordT l (p + 2) true).2)) := Lib.hid (by unfold formT; rw [if_neg (by rw [h95]; decide), if_pos h95, if_pos h58])
    rw [decide_eq_true h58] at HS3
    obtain ⟨t, j, htj⟩ : ∃ t j, wordT l (p + 2) true = (t, j) := ⟨_, _, rfl⟩
    rw [htj] at HI HFO
    dsimp only at HI HFO
    clear h58 h95 htj hq
    go_enter Tryz.func26, Tryz.ntmps26
    go_wp2_with fail
    rw [← HW1.out]
    refine HS.out.mono ?_
    rintro e w' ⟨rfl, rfl⟩
    go_wp2_with fail
    refine HS2.out.mono ?_
    rintro e w' ⟨rfl, rfl⟩
    go_wp2_with fail
    refine HS3.out.mono ?_
    rintro e w' ⟨rfl, rfl⟩
    go_wp2_with fail
    refine (HI.out _ HB1.out.2.2).mono ?_
    rintro e w2 ⟨rfl, hb2⟩
    have HB2 := Lib.hid (HB1.out.below hb2)
    clear hb2 x0 x1 x2 x3 xf0 xf1 xf2 xf3 z0 z1 z2 z3 zf0 zf1 zf2 zf3
    obtain ⟨x0, x1, x2, x3, xf⟩ := blk4 HB2.out.2.1
    have xf0 := xf 0
    have xf1 := xf 1
    have xf2 := xf 2
    have xf3 := xf 3
    obtain ⟨z0, z1, z2, z3, zf⟩ := blk4 HB2.out.1
    have zf0 := zf 0
    have zf1 := zf 1
    have zf2 := zf 2
    have zf3 := zf 3
    clear xf zf
    have HGX : Hid (∀ w2, Calls Tryz.prog 23 #[.agg #[.int .i64 0, .string (tBytes t), .string ⟨#[]⟩, .string ⟨#[]⟩]] w2 fun e w' => e = .returned (.bool (G (.blank (tBytes t)))) ∧ Below w2.heap.size w2 w') := Lib.hid (fun w2 => (HGF.out (.blank (tBytes t)) (form_facts HL.out HLB.out HFO.out).2.2.1).2.1 w2)
    obtain ⟨gx, hgx⟩ : ∃ gx, gx = G (.blank (tBytes t)) := ⟨_, rfl⟩
    rw [← hgx] at HGX
    cases gx with
    | true =>
      have HRR : Hid (R = (some (.blank (tBytes t)), j, 0)) := Lib.hid (by rw [HR.out]; unfold readT; rw [HFO.out]; dsimp only; rw [if_pos hgx.symm])
      clear hgx
      go_wp2_with fail
      refine (HGX.out _).mono ?_
      rintro e w9 ⟨rfl, hb9⟩
      have HB9 := Lib.hid ((HB2.out.set 1 (.string (tBytes t)) rfl).below hb9)
      clear hb9 x0 x1 x2 x3 xf0 xf1 xf2 xf3 z0 z1 z2 z3 zf0 zf1 zf2 zf3
      obtain ⟨x0, x1, x2, x3, xf⟩ := blk4 HB9.out.2.1
      have xf0 := xf 0
      have xf1 := xf 1
      have xf2 := xf 2
      have xf3 := xf 3
      obtain ⟨z0, z1, z2, z3, zf⟩ := blk4 HB9.out.1
      have zf0 := zf 0
      have zf1 := zf 1
      have zf2 := zf 2
      have zf3 := zf 3
      clear xf zf
      go_wp2_with fail
      refine bodyPost_ret (v := .tuple #[.agg #[.int .i64 0, .string (tBytes t), .string ⟨#[]⟩, .string ⟨#[]⟩], .int .i64 j, .int .i64 0]) (by simp [results, Tryz.results26, go_sem, z0, z1, z2, z3]) rfl ?_
      rw [HRR.out]
      exact ⟨rfl, RB.end4 HB9.out _ _ _ _⟩
    | false =>
      have HRR : Hid (R = (none, p, 3)) := Lib.hid (by rw [HR.out]; unfold readT; rw [HFO.out]; dsimp only; rw [if_neg (by rw [← hgx]; decide)])
      clear hgx
      go_wp2_with fail
      refine (HGX.out _).mono ?_
      rintro e w9 ⟨rfl, hb9⟩
      have HB9 := Lib.hid ((HB2.out.set 1 (.string (tBytes t)) rfl).below hb9)
      clear hb9 x0 x1 x2 x3 xf0 xf1 xf2 xf3 z0 z1 z2 z3 zf0 zf1 zf2 zf3
      obtain ⟨x0, x1, x2, x3, xf⟩ := blk4 HB9.out.2.1
      have xf0 := xf 0
      have xf1 := xf 1
      have xf2 := xf 2
      have xf3 := xf 3
      obtain ⟨z0, z1, z2, z3, zf⟩ := blk4 HB9.out.1
      have zf0 := zf 0
      have zf1 := zf 1
      have zf2 := zf 2
      have zf3 := zf 3
      clear xf zf
      go_wp2_with fail
      refine bodyPost_ret (v := .tuple #[.agg #[.int .i64 0, .string ⟨#[]⟩, .string ⟨#[]⟩, .string ⟨#[]⟩], .int .i64 p, .int .i64 3]) (by simp [results, Tryz.results26, go_sem, z0, z1, z2, z3]) rfl ?_
      rw [HRR.out]
      exact ⟨rfl, RB.end4 HB9.out _ _ _ _⟩
  · have HRR : Hid (R = (none, p + 1, 1)) := Lib.hid (by rw [HR.out]; unfold readT formT; rw [if_neg (by rw [h95]; decide), if_pos h95, if_neg h58])
    rw [decide_eq_false h58] at HS3
    clear h58 h95
    go_enter Tryz.func26, Tryz.ntmps26
    go_wp2_with fail
    rw [← HW1.out]
    refine HS.out.mono ?_
    rintro e w' ⟨rfl, rfl⟩
    go_wp2_with fail
    refine HS2.out.mono ?_
    rintro e w' ⟨rfl, rfl⟩
    go_wp2_with fail
    refine HS3.out.mono ?_
    rintro e w' ⟨rfl, rfl⟩
    go_wp2_with fail
    refine bodyPost_ret (v := .tuple #[.agg #[.int .i64 0, .string ⟨#[]⟩, .string ⟨#[]⟩, .string ⟨#[]⟩], .int .i64 ((p : Int) + 1), .int .i64 1]) (by simp [results, Tryz.results26, go_sem, z0, z1, z2, z3]) rfl ?_
    rw [HRR.out]
    exact ⟨(by simp; rfl), RB.end4 (HB1.out) _ _ _ _⟩
set_option maxHeartbeats 12800000 in
theorem rread_none {G : Tm → Bool} (hG : GoodFn G) {l : List Int} {a : Option Addr} {cs : Nat} {w : World} (p : Nat) (h : SgRow l a cs w) (hl : ∀ n ∈ l, SignP n) (hb : l.length ≤ 100000) (hp : p ≤ l.length) (h60 : pk l p ≠ 60) (h95 : pk l p ≠ 95) (h34 : pk l p ≠ 34) :
    Calls Tryz.prog 26 #[.slice a l.length cs, .int .i64 p] w (RReadEnd w (readT G l p)) := by
  have HL := Lib.hid hl
  have HLB := Lib.hid hb
  have HGF := Lib.hid hG
  have HST := Lib.hid (fun (wr : World) (hw : Below w.heap.size w wr) (i : Nat) (c : Int) (hc : 0 ≤ c ∧ c ≤ 255) (hi : i ≤ 2000000) => stands_any i c hc (h.below hw) hl (by omega : l.length ≤ 1000000) hi)
  have HIR := Lib.hid (fun (wr : World) (hw : Below w.heap.size w wr) (q : Nat) (hq : q ≤ l.length) => riri4_any q (h.below hw) hl hb hq)
  have HWD := Lib.hid (fun (wr : World) (hw : Below w.heap.size w wr) (q : Nat) (u : Bool) (hq : q ≤ l.length) => rword_any q u (h.below hw) hl (by omega : l.length ≤ 1000000) hq)
  have HQU := Lib.hid (fun (wr : World) (hw : Below w.heap.size w wr) => rquoted_any l p _ cs a wr (h.below hw).rcls hl hb hp)
  obtain ⟨R, hR⟩ : ∃ R, R = readT G l p := ⟨_, rfl⟩
  have HR := Lib.hid hR
  rw [← hR]
  unfold RReadEnd
  obtain ⟨W1, hW1⟩ : ∃ W1, W1 = ((w.alloc (.cells #[.int .i64 0, .string ⟨#[]⟩, .string ⟨#[]⟩, .string ⟨#[]⟩] 27)).alloc (.cells #[.int .i64 0, .string ⟨#[]⟩, .string ⟨#[]⟩, .string ⟨#[]⟩] 27)) := ⟨_, rfl⟩
  have HB1 : Hid (RB w 0 ⟨#[]⟩ ⟨#[]⟩ ⟨#[]⟩ W1) := Lib.hid (by rw [hW1]; exact RB.start w)
  have HW1 := Lib.hid hW1
  have hp2 : (p : Int) ≤ 100000 := by omega
  clear h hl hG hW1 hR
  have HS := Lib.hid (HST.out W1 HB1.out.2.2 p 60 (by omega) (by omega))
  rw [decide_eq_false h60] at HS
  have HS2 := Lib.hid (HST.out W1 HB1.out.2.2 p 95 (by omega) (by omega))
  rw [decide_eq_false h95] at HS2
  have HS3 := Lib.hid (HST.out W1 HB1.out.2.2 p 34 (by omega) (by omega))
  rw [decide_eq_false h34] at HS3
  obtain ⟨x0, x1, x2, x3, xf⟩ := blk4 HB1.out.2.1
  have xf0 := xf 0
  have xf1 := xf 1
  have xf2 := xf 2
  have xf3 := xf 3
  obtain ⟨z0, z1, z2, z3, zf⟩ := blk4 HB1.out.1
  have zf0 := zf 0
  have zf1 := zf 1
  have zf2 := zf 2
  have zf3 := zf 3
  clear xf zf
  have HRR : Hid (R = (none, p, 1)) := Lib.hid (by rw [HR.out]; unfold readT formT; rw [if_neg h60, if_neg h95, if_neg h34])
  clear h60 h95 h34
  go_enter Tryz.func26, Tryz.ntmps26
  go_wp2_with fail
  rw [← HW1.out]
  refine HS.out.mono ?_
  rintro e w' ⟨rfl, rfl⟩
  go_wp2_with fail
  refine HS2.out.mono ?_
  rintro e w' ⟨rfl, rfl⟩
  go_wp2_with fail
  refine HS3.out.mono ?_
  rintro e w' ⟨rfl, rfl⟩
  go_wp2_with fail
  refine bodyPost_ret (v := .tuple #[.agg #[.int .i64 0, .string ⟨#[]⟩, .string ⟨#[]⟩, .string ⟨#[]⟩], .int .i64 p, .int .i64 1]) (by simp [results, Tryz.results26, go_sem, z0, z1, z2, z3]) rfl ?_
  rw [HRR.out]
  exact ⟨rfl, RB.end4 (HB1.out) _ _ _ _⟩
end Go.Proofs.YtbchkhjkajagfaaGreatDoor
