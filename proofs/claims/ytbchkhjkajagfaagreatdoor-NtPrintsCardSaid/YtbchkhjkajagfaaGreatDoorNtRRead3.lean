/- Contract over this seat's program: the document's Read: a literal; all. -/
import Derived.Test.YtbchkhjkajagfaaGreatDoorNtRRead2
namespace Go.Proofs.YtbchkhjkajagfaaGreatDoor
open Go Go.RowKit
set_option linter.unusedVariables false
set_option linter.unusedSimpArgs false
set_option maxRecDepth 100000
set_option maxHeartbeats 12800000 in
theorem rread_lit {G : Tm → Bool} (hG : GoodFn G) {l : List Int} {a : Option Addr} {cs : Nat} {w : World} (p : Nat) (h : SgRow l a cs w) (hl : ∀ n ∈ l, SignP n) (hb : l.length ≤ 100000) (hp : p ≤ l.length) (h34 : pk l p = 34) :
    Calls Tryz.prog 26 #[.slice a l.length cs, .int .i64 p] w (RReadEnd w (readT G l p)) := by
  have HL := Lib.hid hl
  have HLB := Lib.hid hb
  have HGF := Lib.hid hG
  have HST := Lib.hid (fun (wr : World) (hw : Below w.heap.size w wr) (i : Nat) (c : Int) (hc : 0 ≤ c ∧ c ≤ 255) (hi : i ≤ 2000000) => stands_any i c hc (h.below hw) hl (by omega : l.length ≤ 1000000) hi)
  have HIR := Lib.hid (fun (wr : World) (hw : Below w.heap.size w wr) (q : Nat) (hq : q ≤ l.length) => riri4_any q (h.below hw) hl hb hq)
  have HWD := Lib.hid (fun (wr : World) (hw : Below w.heap.size w wr) (q : Nat) (u : Bool) (hq : q ≤ l.length) => rword_any q u (h.below hw) hl (by omega : l.length ≤ 1000000) hq)
  have HQU := Lib.hid (fun (wr : World) (hw : Below w.heap.size w wr) => rquoted_any l p _ cs a wr (h.below hw).rcls hl hb hp)
  obtain ⟨R, hR⟩ : ∃ R, R = readT G l p := ⟨_, rfl⟩
  have HR := Lib.hid hR
  rw [← hR]
  unfold RReadEnd
  obtain ⟨W1, hW1⟩ : ∃ W1, W1 = ((w.alloc (.cells #[.int .i64 0, .string ⟨#[]⟩, .string ⟨#[]⟩, .string ⟨#[]⟩] 27)).alloc (.cells #[.int .i64 0, .string ⟨#[]⟩, .string ⟨#[]⟩, .string ⟨#[]⟩] 27)) := ⟨_, rfl⟩
  have HB1 : Hid (RB w 0 ⟨#[]⟩ ⟨#[]⟩ ⟨#[]⟩ W1) := Lib.hid (by rw [hW1]; exact RB.start w)
  have HW1 := Lib.hid hW1
  have hp2 : (p : Int) ≤ 100000 := by omega
  clear h hl hG hW1 hR
  have HS := Lib.hid (HST.out W1 HB1.out.2.2 p 60 (by omega) (by omega))
  rw [decide_eq_false (by rw [h34]; decide)] at HS
  have HS2 := Lib.hid (HST.out W1 HB1.out.2.2 p 95 (by omega) (by omega))
  rw [decide_eq_false (by rw [h34]; decide)] at HS2
  have HS3 := Lib.hid (HST.out W1 HB1.out.2.2 p 34 (by omega) (by omega))
  rw [decide_eq_true h34] at HS3
  obtain ⟨x0, x1, x2, x3, xf⟩ := blk4 HB1.out.2.1
  have xf0 := xf 0
  have xf1 := xf 1
  have xf2 := xf 2
  have xf3 := xf 3
  obtain ⟨z0, z1, z2, z3, zf⟩ := blk4 HB1.out.1
  have zf0 := zf 0
  have zf1 := zf 1
  have zf2 := zf 2
  have zf3 := zf 3
  clear xf zf
  have HQF := Lib.hid (fun r j (e : quotedV l p = (some r, j)) => quoted_facts HL.out e)
  have HQ := Lib.hid (HQU.out W1 HB1.out.2.2)
  have hF : formT l p = (match quotedV l p with
     | (none, j) => (none, j)
     | (some t, j) =>
       if pk l j = 94 ∧ pk l (j + 1) = 94 then ((iriT l (j + 2)).1.map (fun y => .lit (tBytes t) (tBytes y) ⟨#[]⟩), (iriT l (j + 2)).2)
       else if pk l j = 64 then (some (.lit (tBytes t) ntLang (tBytes (wordT l (j + 1) false).1)), (wordT l (j + 1) false).2)
       else (some (.lit (tBytes t) ntString ⟨#[]⟩), j)) := by
    unfold formT
    rw [if_neg (by rw [h34]; decide), if_neg (by rw [h34]; decide), if_pos h34]
    rfl
  have HF := Lib.hid hF
  have HRW : Hid (0 < W1.heap.size) := Lib.hid (Nat.lt_of_le_of_lt (Nat.zero_le _) (lt_blk HB1.out.1))
  unfold RQRes at HQ
  obtain ⟨o, j, hoj⟩ : ∃ o j, quotedV l p = (o, j) := ⟨_, _, rfl⟩
  rw [hoj] at HQ HF HQF
  dsimp only at HQ HF
  clear hoj hF h34
  cases o with
  | none =>
    have HRR : Hid (R = (none, j, 1)) := Lib.hid (by rw [HR.out]; unfold readT; rw [HF.out])
    go_enter Tryz.func26, Tryz.ntmps26
    go_wp2_with fail
    rw [← HW1.out]
    refine HS.out.mono ?_
    rintro e w' ⟨rfl, rfl⟩
    go_wp2_with fail
    refine HS2.out.mono ?_
    rintro e w' ⟨rfl, rfl⟩
    go_wp2_with fail
    refine HS3.out.mono ?_
    rintro e w' ⟨rfl, rfl⟩
    go_wp2_with fail
    refine HQ.out.mono ?_
    rintro e w2 ⟨qa, qc, rfl, ho2, hb2⟩
    have HT := Lib.hid (text_any [] qa 0 qc 0 w2 (own_rcls ho2 rfl HRW.out) (fun x hx => by cases hx) (by omega))
    have HB2 := Lib.hid (HB1.out.below hb2)
    clear hb2 x0 x1 x2 x3 xf0 xf1 xf2 xf3 z0 z1 z2 z3 zf0 zf1 zf2 zf3 ho2
    go_wp2_with fail
    refine HT.out.mono ?_
    rintro e w3 ⟨rfl, hb3⟩
    have HB3 := Lib.hid (HB2.out.below hb3)
    clear hb3
    obtain ⟨x0, x1, x2, x3, xf⟩ := blk4 HB3.out.2.1
    have xf0 := xf 0
    have xf1 := xf 1
    have xf2 := xf 2
    have xf3 := xf 3
    obtain ⟨z0, z1, z2, z3, zf⟩ := blk4 HB3.out.1
    have zf0 := zf 0
    have zf1 := zf 1
    have zf2 := zf 2
    have zf3 := zf 3
    clear xf zf
    go_wp2_with fail
    refine bodyPost_ret (v := .tuple #[.agg #[.int .i64 0, .string ⟨#[]⟩, .string ⟨#[]⟩, .string ⟨#[]⟩], .int .i64 j, .int .i64 1]) (by simp [results, Tryz.results26, go_sem, z0, z1, z2, z3]) rfl ?_
    rw [HRR.out]
    exact ⟨rfl, RB.end4 ((((HB3.out.set (k' := 2) 0 (.int .i64 2) rfl).set 1 (.string (tBytes [])) rfl).set (t' := ⟨#[104, 116, 116, 112, 58, 47, 47, 119, 119, 119, 46, 119, 51, 46, 111, 114, 103, 47, 50, 48, 48, 49, 47, 88, 77, 76, 83, 99, 104, 101, 109, 97, 35, 115, 116, 114, 105, 110, 103]⟩) 2 (.string ⟨#[104, 116, 116, 112, 58, 47, 47, 119, 119, 119, 46, 119, 51, 46, 111, 114, 103, 47, 50, 48, 48, 49, 47, 88, 77, 76, 83, 99, 104, 101, 109, 97, 35, 115, 116, 114, 105, 110, 103]⟩) rfl).set 3 (.string ⟨#[]⟩) rfl) _ _ _ _⟩
  | some t =>
    dsimp only at HF
    obtain ⟨hq1, hq2, hq3, hq4⟩ := HQF.out t j rfl
    have HSG := Lib.hid hq4
    have HSA := Lib.hid (fun (wr : World) (hw : Below w.heap.size w wr) => HST.out wr hw j 94 (by omega) (by omega))
    have HSB := Lib.hid (fun (wr : World) (hw : Below w.heap.size w wr) => HST.out wr hw (j + 1) 94 (by omega) (by omega))
    rw [show ((j + 1 : Nat) : Int) = (j : Int) + 1 from by push_cast; rfl] at HSB
    have HSC := Lib.hid (fun (wr : World) (hw : Below w.heap.size w wr) => HST.out wr hw j 64 (by omega) (by omega))
    have htl : t.length ≤ 1000000 := by omega
    clear hq4 HQF
    by_cases h94 : pk l j = 94
    · rw [decide_eq_true h94] at HSA
      rw [decide_eq_false (by rw [h94]; decide)] at HSC
      by_cases h95 : pk l (j + 1) = 94
      · rw [decide_eq_true h95] at HSB
        have hj2 : j + 2 ≤ l.length := by have := pk_lt h95 (by decide); omega
        rw [if_pos ⟨h94, h95⟩] at HF
        have HI := Lib.hid (fun wr hw => HIR.out wr hw (j + 2) hj2)
        rw [show ((j + 2 : Nat) : Int) = (j : Int) + 2 from by push_cast; rfl] at HI
        obtain ⟨o, k, hok⟩ : ∃ o k, iriT l (j + 2) = (o, k) := ⟨_, _, rfl⟩
        rw [hok] at HF HI
        clear hok h94 h95 HSC
        cases o with
        | none =>
          have HRR : Hid (R = (none, k, 1)) := Lib.hid (by rw [HR.out]; unfold readT; rw [HF.out]; rfl)
          dsimp only at HI
          go_enter Tryz.func26, Tryz.ntmps26
          go_wp2_with fail
          rw [← HW1.out]
          refine HS.out.mono ?_
          rintro e w' ⟨rfl, rfl⟩
          go_wp2_with fail
          refine HS2.out.mono ?_
          rintro e w' ⟨rfl, rfl⟩
          go_wp2_with fail
          refine HS3.out.mono ?_
          rintro e w' ⟨rfl, rfl⟩
          go_wp2_with fail
          refine HQ.out.mono ?_
          rintro e w2 ⟨qa, qc, rfl, ho2, hb2⟩
          have HT := Lib.hid (text_any t qa t.length qc 0 w2 (own_rcls ho2 rfl HRW.out) HSG.out htl)
          have HB2 := Lib.hid (HB1.out.below hb2)
          clear hb2 x0 x1 x2 x3 xf0 xf1 xf2 xf3 z0 z1 z2 z3 zf0 zf1 zf2 zf3 ho2
          dsimp only [Option.getD, Option.isSome]
          go_wp2_with fail
          refine HT.out.mono ?_
          rintro e w3 ⟨rfl, hb3⟩
          have HB3 := Lib.hid (HB2.out.below hb3)
          clear hb3
          obtain ⟨x0, x1, x2, x3, xf⟩ := blk4 HB3.out.2.1
          have xf0 := xf 0
          have xf1 := xf 1
          have xf2 := xf 2
          have xf3 := xf 3
          obtain ⟨z0, z1, z2, z3, zf⟩ := blk4 HB3.out.1
          have zf0 := zf 0
          have zf1 := zf 1
          have zf2 := zf 2
          have zf3 := zf 3
          clear xf zf
          obtain ⟨W4, hW4⟩ : ∃ W4, W4 = (((w3.setCell ⟨w.heap.size + 1, 0, none⟩ (.int .i64 2)).setCell ⟨w.heap.size + 1, 1, none⟩ (.string (tBytes t))).setCell ⟨w.heap.size + 1, 2, none⟩ (.string ⟨#[104, 116, 116, 112, 58, 47, 47, 119, 119, 119, 46, 119, 51, 46, 111, 114, 103, 47, 50, 48, 48, 49, 47, 88, 77, 76, 83, 99, 104, 101, 109, 97, 35, 115, 116, 114, 105, 110, 103]⟩)).setCell ⟨w.heap.size + 1, 3, none⟩ (.string ⟨#[]⟩) := ⟨_, rfl⟩
          have HB4 : Hid (RB w 2 (tBytes t) ⟨#[104, 116, 116, 112, 58, 47, 47, 119, 119, 119, 46, 119, 51, 46, 111, 114, 103, 47, 50, 48, 48, 49, 47, 88, 77, 76, 83, 99, 104, 101, 109, 97, 35, 115, 116, 114, 105, 110, 103]⟩ ⟨#[]⟩ W4) := Lib.hid (by rw [hW4]; exact (((HB3.out.set (k' := 2) 0 (.int .i64 2) rfl).set 1 (.string (tBytes t)) rfl).set (t' := ⟨#[104, 116, 116, 112, 58, 47, 47, 119, 119, 119, 46, 119, 51, 46, 111, 114, 103, 47, 50, 48, 48, 49, 47, 88, 77, 76, 83, 99, 104, 101, 109, 97, 35, 115, 116, 114, 105, 110, 103]⟩) 2 (.string ⟨#[104, 116, 116, 112, 58, 47, 47, 119, 119, 119, 46, 119, 51, 46, 111, 114, 103, 47, 50, 48, 48, 49, 47, 88, 77, 76, 83, 99, 104, 101, 109, 97, 35, 115, 116, 114, 105, 110, 103]⟩) rfl).set 3 (.string ⟨#[]⟩) rfl)
          have HW4 := Lib.hid hW4
          clear hW4
          go_wp2_with fail
          rw [← HW4.out]
          clear x0 x1 x2 x3 xf0 xf1 xf2 xf3 z0 z1 z2 z3 zf0 zf1 zf2 zf3
          obtain ⟨x0, x1, x2, x3, xf⟩ := blk4 HB4.out.2.1
          have xf0 := xf 0
          have xf1 := xf 1
          have xf2 := xf 2
          have xf3 := xf 3
          obtain ⟨z0, z1, z2, z3, zf⟩ := blk4 HB4.out.1
          have zf0 := zf 0
          have zf1 := zf 1
          have zf2 := zf 2
          have zf3 := zf 3
          clear xf zf
          refine (HSA.out _ HB4.out.2.2).mono ?_
          rintro e w' ⟨rfl, rfl⟩
          go_wp2_with fail
          refine (HSB.out _ HB4.out.2.2).mono ?_
          rintro e w' ⟨rfl, rfl⟩
          go_wp2_with fail
          refine (HI.out _ HB4.out.2.2).mono ?_
          rintro e w5 ⟨rfl, hb5⟩
          have HB5 := Lib.hid (HB4.out.below hb5)
          clear hb5 x0 x1 x2 x3 xf0 xf1 xf2 xf3 z0 z1 z2 z3 zf0 zf1 zf2 zf3
          obtain ⟨x0, x1, x2, x3, xf⟩ := blk4 HB5.out.2.1
          have xf0 := xf 0
          have xf1 := xf 1
          have xf2 := xf 2
          have xf3 := xf 3
          obtain ⟨z0, z1, z2, z3, zf⟩ := blk4 HB5.out.1
          have zf0 := zf 0
          have zf1 := zf 1
          have zf2 := zf 2
          have zf3 := zf 3
          clear xf zf
          go_wp2_with fail
          refine bodyPost_ret (v := .tuple #[.agg #[.int .i64 0, .string ⟨#[]⟩, .string ⟨#[]⟩, .string ⟨#[]⟩], .int .i64 k, .int .i64 1]) (by simp [results, Tryz.results26, go_sem, z0, z1, z2, z3]) rfl ?_
          rw [HRR.out]
          exact ⟨rfl, RB.end4 (HB5.out.set (t' := tBytes []) 2 (.string (tBytes [])) rfl) _ _ _ _⟩
        | some y =>
          have HFO : Hid (formT l p = (some (.lit (tBytes t) (tBytes y) ⟨#[]⟩), k)) := Lib.hid (by rw [HF.out]; rfl)
          dsimp only [Option.getD, Option.isSome] at HI
          go_enter Tryz.func26, Tryz.ntmps26
          go_wp2_with fail
          rw [← HW1.out]
          refine HS.out.mono ?_
          rintro e w' ⟨rfl, rfl⟩
          go_wp2_with fail
          refine HS2.out.mono ?_
          rintro e w' ⟨rfl, rfl⟩
          go_wp2_with fail
          refine HS3.out.mono ?_
          rintro e w' ⟨rfl, rfl⟩
          go_wp2_with fail
          refine HQ.out.mono ?_
          rintro e w2 ⟨qa, qc, rfl, ho2, hb2⟩
          have HT := Lib.hid (text_any t qa t.length qc 0 w2 (own_rcls ho2 rfl HRW.out) HSG.out htl)
          have HB2 := Lib.hid (HB1.out.below hb2)
          clear hb2 x0 x1 x2 x3 xf0 xf1 xf2 xf3 z0 z1 z2 z3 zf0 zf1 zf2 zf3 ho2
          dsimp only [Option.getD, Option.isSome]
          go_wp2_with fail
          refine HT.out.mono ?_
          rintro e w3 ⟨rfl, hb3⟩
          have HB3 := Lib.hid (HB2.out.below hb3)
          clear hb3
          obtain ⟨x0, x1, x2, x3, xf⟩ := blk4 HB3.out.2.1
          have xf0 := xf 0
          have xf1 := xf 1
          have xf2 := xf 2
          have xf3 := xf 3
          obtain ⟨z0, z1, z2, z3, zf⟩ := blk4 HB3.out.1
          have zf0 := zf 0
          have zf1 := zf 1
          have zf2 := zf 2
          have zf3 := zf 3
          clear xf zf
          obtain ⟨W4, hW4⟩ : ∃ W4, W4 = (((w3.setCell ⟨w.heap.size + 1, 0, none⟩ (.int .i64 2)).setCell ⟨w.heap.size + 1, 1, none⟩ (.string (tBytes t))).setCell ⟨w.heap.size + 1, 2, none⟩ (.string ⟨#[104, 116, 116, 112, 58, 47, 47, 119, 119, 119, 46, 119, 51, 46, 111, 114, 103, 47, 50, 48, 48, 49, 47, 88, 77, 76, 83, 99, 104, 101, 109, 97, 35, 115, 116, 114, 105, 110, 103]⟩)).setCell ⟨w.heap.size + 1, 3, none⟩ (.string ⟨#[]⟩) := ⟨_, rfl⟩
          have HB4 : Hid (RB w 2 (tBytes t) ⟨#[104, 116, 116, 112, 58, 47, 47, 119, 119, 119, 46, 119, 51, 46, 111, 114, 103, 47, 50, 48, 48, 49, 47, 88, 77, 76, 83, 99, 104, 101, 109, 97, 35, 115, 116, 114, 105, 110, 103]⟩ ⟨#[]⟩ W4) := Lib.hid (by rw [hW4]; exact (((HB3.out.set (k' := 2) 0 (.int .i64 2) rfl).set 1 (.string (tBytes t)) rfl).set (t' := ⟨#[104, 116, 116, 112, 58, 47, 47, 119, 119, 119, 46, 119, 51, 46, 111, 114, 103, 47, 50, 48, 48, 49, 47, 88, 77, 76, 83, 99, 104, 101, 109, 97, 35, 115, 116, 114, 105, 110, 103]⟩) 2 (.string ⟨#[104, 116, 116, 112, 58, 47, 47, 119, 119, 119, 46, 119, 51, 46, 111, 114, 103, 47, 50, 48, 48, 49, 47, 88, 77, 76, 83, 99, 104, 101, 109, 97, 35, 115, 116, 114, 105, 110, 103]⟩) rfl).set 3 (.string ⟨#[]⟩) rfl)
          have HW4 := Lib.hid hW4
          clear hW4
          go_wp2_with fail
          rw [← HW4.out]
          clear x0 x1 x2 x3 xf0 xf1 xf2 xf3 z0 z1 z2 z3 zf0 zf1 zf2 zf3
          obtain ⟨x0, x1, x2, x3, xf⟩ := blk4 HB4.out.2.1
          have xf0 := xf 0
          have xf1 := xf 1
          have xf2 := xf 2
          have xf3 := xf 3
          obtain ⟨z0, z1, z2, z3, zf⟩ := blk4 HB4.out.1
          have zf0 := zf 0
          have zf1 := zf 1
          have zf2 := zf 2
          have zf3 := zf 3
          clear xf zf
          refine (HSA.out _ HB4.out.2.2).mono ?_
          rintro e w' ⟨rfl, rfl⟩
          go_wp2_with fail
          refine (HSB.out _ HB4.out.2.2).mono ?_
          rintro e w' ⟨rfl, rfl⟩
          go_wp2_with fail
          refine (HI.out _ HB4.out.2.2).mono ?_
          rintro e w5 ⟨rfl, hb5⟩
          have HB5 := Lib.hid (HB4.out.below hb5)
          clear hb5 x0 x1 x2 x3 xf0 xf1 xf2 xf3 z0 z1 z2 z3 zf0 zf1 zf2 zf3
          obtain ⟨x0, x1, x2, x3, xf⟩ := blk4 HB5.out.2.1
          have xf0 := xf 0
          have xf1 := xf 1
          have xf2 := xf 2
          have xf3 := xf 3
          obtain ⟨z0, z1, z2, z3, zf⟩ := blk4 HB5.out.1
          have zf0 := zf 0
          have zf1 := zf 1
          have zf2 := zf 2
          have zf3 := zf 3
          clear xf zf
          have HGX : Hid (∀ w2, Calls Tryz.prog 23 #[.agg #[.int .i64 2, .string (tBytes t), .string (tBytes y), .string ⟨#[]⟩]] w2 fun e w' => e = .returned (.bool (G (.lit (tBytes t) (tBytes y) ⟨#[]⟩))) ∧ Below w2.heap.size w2 w') := Lib.hid (fun w2 => (HGF.out (.lit (tBytes t) (tBytes y) ⟨#[]⟩) (form_facts HL.out HLB.out HFO.out).2.2.1).2.1 w2)
          obtain ⟨gx, hgx⟩ : ∃ gx, gx = G (.lit (tBytes t) (tBytes y) ⟨#[]⟩) := ⟨_, rfl⟩
          rw [← hgx] at HGX
          cases gx with
          | true =>
            have HRR : Hid (R = (some (.lit (tBytes t) (tBytes y) ⟨#[]⟩), k, 0)) := Lib.hid (by rw [HR.out]; unfold readT; rw [HFO.out]; dsimp only; rw [if_pos hgx.symm])
            clear hgx
            go_wp2_with fail
            refine (HGX.out _).mono ?_
            rintro e w9 ⟨rfl, hb9⟩
            have HB9 := Lib.hid ((HB5.out.set (t' := tBytes y) 2 (.string (tBytes y)) rfl).below hb9)
            clear hb9 x0 x1 x2 x3 xf0 xf1 xf2 xf3 z0 z1 z2 z3 zf0 zf1 zf2 zf3
            obtain ⟨x0, x1, x2, x3, xf⟩ := blk4 HB9.out.2.1
            have xf0 := xf 0
            have xf1 := xf 1
            have xf2 := xf 2
            have xf3 := xf 3
            obtain ⟨z0, z1, z2, z3, zf⟩ := blk4 HB9.out.1
            have zf0 := zf 0
            have zf1 := zf 1
            have zf2 := zf 2
            have zf3 := zf 3
            clear xf zf
            go_wp2_with fail
            refine bodyPost_ret (v := .tuple #[.agg #[.int .i64 2, .string (tBytes t), .string (tBytes y), .string ⟨#[]⟩], .int .i64 k, .int .i64 0]) (by simp [results, Tryz.results26, go_sem, z0, z1, z2, z3]) rfl ?_
            rw [HRR.out]
            exact ⟨rfl, RB.end4 HB9.out _ _ _ _⟩
          | false =>
            have HRR : Hid (R = (none, p, 3)) := Lib.hid (by rw [HR.out]; unfold readT; rw [HFO.out]; dsimp only; rw [if_neg (by rw [← hgx]; decide)])
            clear hgx
            go_wp2_with fail
            refine (HGX.out _).mono ?_
            rintro e w9 ⟨rfl, hb9⟩
            have HB9 := Lib.hid ((HB5.out.set (t' := tBytes y) 2 (.string (tBytes y)) rfl).below hb9)
            clear hb9 x0 x1 x2 x3 xf0 xf1 xf2 xf3 z0 z1 z2 z3 zf0 zf1 zf2 zf3
            obtain ⟨x0, x1, x2, x3, xf⟩ := blk4 HB9.out.2.1
            have xf0 := xf 0
            have xf1 := xf 1
            have xf2 := xf 2
            have xf3 := xf 3
            obtain ⟨z0, z1, z2, z3, zf⟩ := blk4 HB9.out.1
            have zf0 := zf 0
            have zf1 := zf 1
            have zf2 := zf 2
            have zf3 := zf 3
            clear xf zf
            go_wp2_with fail
            refine bodyPost_ret (v := .tuple #[.agg #[.int .i64 0, .string ⟨#[]⟩, .string ⟨#[]⟩, .string ⟨#[]⟩], .int .i64 p, .int .i64 3]) (by simp [results, Tryz.results26, go_sem, z0, z1, z2, z3]) rfl ?_
            rw [HRR.out]
            exact ⟨rfl, RB.end4 HB9.out _ _ _ _⟩
      · rw [decide_eq_false h95] at HSB
        rw [if_neg (fun h => h95 h.2), if_neg (by rw [h94]; decide)] at HF
        have HFO : Hid (formT l p = (some (.lit (tBytes t) ⟨#[104, 116, 116, 112, 58, 47, 47, 119, 119, 119, 46, 119, 51, 46, 111, 114, 103, 47, 50, 48, 48, 49, 47, 88, 77, 76, 83, 99, 104, 101, 109, 97, 35, 115, 116, 114, 105, 110, 103]⟩ ⟨#[]⟩), j)) := HF
        clear h94 h95 HF
        go_enter Tryz.func26, Tryz.ntmps26
        go_wp2_with fail
        rw [← HW1.out]
        refine HS.out.mono ?_
        rintro e w' ⟨rfl, rfl⟩
        go_wp2_with fail
        refine HS2.out.mono ?_
        rintro e w' ⟨rfl, rfl⟩
        go_wp2_with fail
        refine HS3.out.mono ?_
        rintro e w' ⟨rfl, rfl⟩
        go_wp2_with fail
        refine HQ.out.mono ?_
        rintro e w2 ⟨qa, qc, rfl, ho2, hb2⟩
        have HT := Lib.hid (text_any t qa t.length qc 0 w2 (own_rcls ho2 rfl HRW.out) HSG.out htl)
        have HB2 := Lib.hid (HB1.out.below hb2)
        clear hb2 x0 x1 x2 x3 xf0 xf1 xf2 xf3 z0 z1 z2 z3 zf0 zf1 zf2 zf3 ho2
        dsimp only [Option.getD, Option.isSome]
        go_wp2_with fail
        refine HT.out.mono ?_
        rintro e w3 ⟨rfl, hb3⟩
        have HB3 := Lib.hid (HB2.out.below hb3)
        clear hb3
        obtain ⟨x0, x1, x2, x3, xf⟩ := blk4 HB3.out.2.1
        have xf0 := xf 0
        have xf1 := xf 1
        have xf2 := xf 2
        have xf3 := xf 3
        obtain ⟨z0, z1, z2, z3, zf⟩ := blk4 HB3.out.1
        have zf0 := zf 0
        have zf1 := zf 1
        have zf2 := zf 2
        have zf3 := zf 3
        clear xf zf
        obtain ⟨W4, hW4⟩ : ∃ W4, W4 = (((w3.setCell ⟨w.heap.size + 1, 0, none⟩ (.int .i64 2)).setCell ⟨w.heap.size + 1, 1, none⟩ (.string (tBytes t))).setCell ⟨w.heap.size + 1, 2, none⟩ (.string ⟨#[104, 116, 116, 112, 58, 47, 47, 119, 119, 119, 46, 119, 51, 46, 111, 114, 103, 47, 50, 48, 48, 49, 47, 88, 77, 76, 83, 99, 104, 101, 109, 97, 35, 115, 116, 114, 105, 110, 103]⟩)).setCell ⟨w.heap.size + 1, 3, none⟩ (.string ⟨#[]⟩) := ⟨_, rfl⟩
        have HB4 : Hid (RB w 2 (tBytes t) ⟨#[104, 116, 116, 112, 58, 47, 47, 119, 119, 119, 46, 119, 51, 46, 111, 114, 103, 47, 50, 48, 48, 49, 47, 88, 77, 76, 83, 99, 104, 101, 109, 97, 35, 115, 116, 114, 105, 110, 103]⟩ ⟨#[]⟩ W4) := Lib.hid (by rw [hW4]; exact (((HB3.out.set (k' := 2) 0 (.int .i64 2) rfl).set 1 (.string (tBytes t)) rfl).set (t' := ⟨#[104, 116, 116, 112, 58, 47, 47, 119, 119, 119, 46, 119, 51, 46, 111, 114, 103, 47, 50, 48, 48, 49, 47, 88, 77, 76, 83, 99, 104, 101, 109, 97, 35, 115, 116, 114, 105, 110, 103]⟩) 2 (.string ⟨#[104, 116, 116, 112, 58, 47, 47, 119, 119, 119, 46, 119, 51, 46, 111, 114, 103, 47, 50, 48, 48, 49, 47, 88, 77, 76, 83, 99, 104, 101, 109, 97, 35, 115, 116, 114, 105, 110, 103]⟩) rfl).set 3 (.string ⟨#[]⟩) rfl)
        have HW4 := Lib.hid hW4
        clear hW4
        go_wp2_with fail
        rw [← HW4.out]
        clear x0 x1 x2 x3 xf0 xf1 xf2 xf3 z0 z1 z2 z3 zf0 zf1 zf2 zf3
        obtain ⟨x0, x1, x2, x3, xf⟩ := blk4 HB4.out.2.1
        have xf0 := xf 0
        have xf1 := xf 1
        have xf2 := xf 2
        have xf3 := xf 3
        obtain ⟨z0, z1, z2, z3, zf⟩ := blk4 HB4.out.1
        have zf0 := zf 0
        have zf1 := zf 1
        have zf2 := zf 2
        have zf3 := zf 3
        clear xf zf
        refine (HSA.out _ HB4.out.2.2).mono ?_
        rintro e w' ⟨rfl, rfl⟩
        go_wp2_with fail
        refine (HSB.out _ HB4.out.2.2).mono ?_
        rintro e w' ⟨rfl, rfl⟩
        go_wp2_with fail
        refine (HSC.out _ HB4.out.2.2).mono ?_
        rintro e w' ⟨rfl, rfl⟩
        have HGX : Hid (∀ w2, Calls Tryz.prog 23 #[.agg #[.int .i64 2, .string (tBytes t), .string ⟨#[104, 116, 116, 112, 58, 47, 47, 119, 119, 119, 46, 119, 51, 46, 111, 114, 103, 47, 50, 48, 48, 49, 47, 88, 77, 76, 83, 99, 104, 101, 109, 97, 35, 115, 116, 114, 105, 110, 103]⟩, .string ⟨#[]⟩]] w2 fun e w' => e = .returned (.bool (G (.lit (tBytes t) ⟨#[104, 116, 116, 112, 58, 47, 47, 119, 119, 119, 46, 119, 51, 46, 111, 114, 103, 47, 50, 48, 48, 49, 47, 88, 77, 76, 83, 99, 104, 101, 109, 97, 35, 115, 116, 114, 105, 110, 103]⟩ ⟨#[]⟩))) ∧ Below w2.heap.size w2 w') := Lib.hid (fun w2 => (HGF.out (.lit (tBytes t) ⟨#[104, 116, 116, 112, 58, 47, 47, 119, 119, 119, 46, 119, 51, 46, 111, 114, 103, 47, 50, 48, 48, 49, 47, 88, 77, 76, 83, 99, 104, 101, 109, 97, 35, 115, 116, 114, 105, 110, 103]⟩ ⟨#[]⟩) (form_facts HL.out HLB.out HFO.out).2.2.1).2.1 w2)
        obtain ⟨gx, hgx⟩ : ∃ gx, gx = G (.lit (tBytes t) ⟨#[104, 116, 116, 112, 58, 47, 47, 119, 119, 119, 46, 119, 51, 46, 111, 114, 103, 47, 50, 48, 48, 49, 47, 88, 77, 76, 83, 99, 104, 101, 109, 97, 35, 115, 116, 114, 105, 110, 103]⟩ ⟨#[]⟩) := ⟨_, rfl⟩
        rw [← hgx] at HGX
        cases gx with
        | true =>
          have HRR : Hid (R = (some (.lit (tBytes t) ⟨#[104, 116, 116, 112, 58, 47, 47, 119, 119, 119, 46, 119, 51, 46, 111, 114, 103, 47, 50, 48, 48, 49, 47, 88, 77, 76, 83, 99, 104, 101, 109, 97, 35, 115, 116, 114, 105, 110, 103]⟩ ⟨#[]⟩), j, 0)) := Lib.hid (by rw [HR.out]; unfold readT; rw [HFO.out]; dsimp only; rw [if_pos hgx.symm])
          clear hgx
          go_wp2_with fail
          refine (HGX.out _).mono ?_
          rintro e w9 ⟨rfl, hb9⟩
          have HB9 := Lib.hid ((HB4.out).below hb9)
          clear hb9 x0 x1 x2 x3 xf0 xf1 xf2 xf3 z0 z1 z2 z3 zf0 zf1 zf2 zf3
          obtain ⟨x0, x1, x2, x3, xf⟩ := blk4 HB9.out.2.1
          have xf0 := xf 0
          have xf1 := xf 1
          have xf2 := xf 2
          have xf3 := xf 3
          obtain ⟨z0, z1, z2, z3, zf⟩ := blk4 HB9.out.1
          have zf0 := zf 0
          have zf1 := zf 1
          have zf2 := zf 2
          have zf3 := zf 3
          clear xf zf
          go_wp2_with fail
          refine bodyPost_ret (v := .tuple #[.agg #[.int .i64 2, .string (tBytes t), .string ⟨#[104, 116, 116, 112, 58, 47, 47, 119, 119, 119, 46, 119, 51, 46, 111, 114, 103, 47, 50, 48, 48, 49, 47, 88, 77, 76, 83, 99, 104, 101, 109, 97, 35, 115, 116, 114, 105, 110, 103]⟩, .string ⟨#[]⟩], .int .i64 j, .int .i64 0]) (by simp [results, Tryz.results26, go_sem, z0, z1, z2, z3]) rfl ?_
          rw [HRR.out]
          exact ⟨rfl, RB.end4 HB9.out _ _ _ _⟩
        | false =>
          have HRR : Hid (R = (none, p, 3)) := Lib.hid (by rw [HR.out]; unfold readT; rw [HFO.out]; dsimp only; rw [if_neg (by rw [← hgx]; decide)])
          clear hgx
          go_wp2_with fail
          refine (HGX.out _).mono ?_
          rintro e w9 ⟨rfl, hb9⟩
          have HB9 := Lib.hid ((HB4.out).below hb9)
          clear hb9 x0 x1 x2 x3 xf0 xf1 xf2 xf3 z0 z1 z2 z3 zf0 zf1 zf2 zf3
          obtain ⟨x0, x1, x2, x3, xf⟩ := blk4 HB9.out.2.1
          have xf0 := xf 0
          have xf1 := xf 1
          have xf2 := xf 2
          have xf3 := xf 3
          obtain ⟨z0, z1, z2, z3, zf⟩ := blk4 HB9.out.1
          have zf0 := zf 0
          have zf1 := zf 1
          have zf2 := zf 2
          have zf3 := zf 3
          clear xf zf
          go_wp2_with fail
          refine bodyPost_ret (v := .tuple #[.agg #[.int .i64 0, .string ⟨#[]⟩, .string ⟨#[]⟩, .string ⟨#[]⟩], .int .i64 p, .int .i64 3]) (by simp [results, Tryz.results26, go_sem, z0, z1, z2, z3]) rfl ?_
          rw [HRR.out]
          exact ⟨rfl, RB.end4 HB9.out _ _ _ _⟩
    · rw [decide_eq_false h94] at HSA
      rw [if_neg (fun h => h94 h.1)] at HF
      by_cases h64 : pk l j = 64
      · rw [decide_eq_true h64] at HSC
        rw [if_pos h64] at HF
        have hj1 : j + 1 ≤ l.length := by have := pk_lt h64 (by decide); omega
        have HI := Lib.hid (fun wr hw => HWD.out wr hw (j + 1) false hj1)
        rw [show ((j + 1 : Nat) : Int) = (j : Int) + 1 from by push_cast; rfl] at HI
        obtain ⟨y, k, hyk⟩ : ∃ y k, wordT l (j + 1) false = (y, k) := ⟨_, _, rfl⟩
        rw [hyk] at HF HI
        dsimp only at HF HI
        have HFO : Hid (formT l p = (some (.lit (tBytes t) ⟨#[104, 116, 116, 112, 58, 47, 47, 119, 119, 119, 46, 119, 51, 46, 111, 114, 103, 47, 49, 57, 57, 57, 47, 48, 50, 47, 50, 50, 45, 114, 100, 102, 45, 115, 121, 110, 116, 97, 120, 45, 110, 115, 35, 108, 97, 110, 103, 83, 116, 114, 105, 110, 103]⟩ (tBytes y)), k)) := HF
        clear h94 h64 HF hyk HSB
        go_enter Tryz.func26, Tryz.ntmps26
        go_wp2_with fail
        rw [← HW1.out]
        refine HS.out.mono ?_
        rintro e w' ⟨rfl, rfl⟩
        go_wp2_with fail
        refine HS2.out.mono ?_
        rintro e w' ⟨rfl, rfl⟩
        go_wp2_with fail
        refine HS3.out.mono ?_
        rintro e w' ⟨rfl, rfl⟩
        go_wp2_with fail
        refine HQ.out.mono ?_
        rintro e w2 ⟨qa, qc, rfl, ho2, hb2⟩
        have HT := Lib.hid (text_any t qa t.length qc 0 w2 (own_rcls ho2 rfl HRW.out) HSG.out htl)
        have HB2 := Lib.hid (HB1.out.below hb2)
        clear hb2 x0 x1 x2 x3 xf0 xf1 xf2 xf3 z0 z1 z2 z3 zf0 zf1 zf2 zf3 ho2
        dsimp only [Option.getD, Option.isSome]
        go_wp2_with fail
        refine HT.out.mono ?_
        rintro e w3 ⟨rfl, hb3⟩
        have HB3 := Lib.hid (HB2.out.below hb3)
        clear hb3
        obtain ⟨x0, x1, x2, x3, xf⟩ := blk4 HB3.out.2.1
        have xf0 := xf 0
        have xf1 := xf 1
        have xf2 := xf 2
        have xf3 := xf 3
        obtain ⟨z0, z1, z2, z3, zf⟩ := blk4 HB3.out.1
        have zf0 := zf 0
        have zf1 := zf 1
        have zf2 := zf 2
        have zf3 := zf 3
        clear xf zf
        obtain ⟨W4, hW4⟩ : ∃ W4, W4 = (((w3.setCell ⟨w.heap.size + 1, 0, none⟩ (.int .i64 2)).setCell ⟨w.heap.size + 1, 1, none⟩ (.string (tBytes t))).setCell ⟨w.heap.size + 1, 2, none⟩ (.string ⟨#[104, 116, 116, 112, 58, 47, 47, 119, 119, 119, 46, 119, 51, 46, 111, 114, 103, 47, 50, 48, 48, 49, 47, 88, 77, 76, 83, 99, 104, 101, 109, 97, 35, 115, 116, 114, 105, 110, 103]⟩)).setCell ⟨w.heap.size + 1, 3, none⟩ (.string ⟨#[]⟩) := ⟨_, rfl⟩
        have HB4 : Hid (RB w 2 (tBytes t) ⟨#[104, 116, 116, 112, 58, 47, 47, 119, 119, 119, 46, 119, 51, 46, 111, 114, 103, 47, 50, 48, 48, 49, 47, 88, 77, 76, 83, 99, 104, 101, 109, 97, 35, 115, 116, 114, 105, 110, 103]⟩ ⟨#[]⟩ W4) := Lib.hid (by rw [hW4]; exact (((HB3.out.set (k' := 2) 0 (.int .i64 2) rfl).set 1 (.string (tBytes t)) rfl).set (t' := ⟨#[104, 116, 116, 112, 58, 47, 47, 119, 119, 119, 46, 119, 51, 46, 111, 114, 103, 47, 50, 48, 48, 49, 47, 88, 77, 76, 83, 99, 104, 101, 109, 97, 35, 115, 116, 114, 105, 110, 103]⟩) 2 (.string ⟨#[104, 116, 116, 112, 58, 47, 47, 119, 119, 119, 46, 119, 51, 46, 111, 114, 103, 47, 50, 48, 48, 49, 47, 88, 77, 76, 83, 99, 104, 101, 109, 97, 35, 115, 116, 114, 105, 110, 103]⟩) rfl).set 3 (.string ⟨#[]⟩) rfl)
        have HW4 := Lib.hid hW4
        clear hW4
        go_wp2_with fail
        rw [← HW4.out]
        clear x0 x1 x2 x3 xf0 xf1 xf2 xf3 z0 z1 z2 z3 zf0 zf1 zf2 zf3
        obtain ⟨x0, x1, x2, x3, xf⟩ := blk4 HB4.out.2.1
        have xf0 := xf 0
        have xf1 := xf 1
        have xf2 := xf 2
        have xf3 := xf 3
        obtain ⟨z0, z1, z2, z3, zf⟩ := blk4 HB4.out.1
        have zf0 := zf 0
        have zf1 := zf 1
        have zf2 := zf 2
        have zf3 := zf 3
        clear xf zf
        refine (HSA.out _ HB4.out.2.2).mono ?_
        rintro e w' ⟨rfl, rfl⟩
        go_wp2_with fail
        refine (HSC.out _ HB4.out.2.2).mono ?_
        rintro e w' ⟨rfl, rfl⟩
        go_wp2_with fail
        refine (HI.out _ (HB4.out.set (t' := ⟨#[104, 116, 116, 112, 58, 47, 47, 119, 119, 119, 46, 119, 51, 46, 111, 114, 103, 47, 49, 57, 57, 57, 47, 48, 50, 47, 50, 50, 45, 114, 100, 102, 45, 115, 121, 110, 116, 97, 120, 45, 110, 115, 35, 108, 97, 110, 103, 83, 116, 114, 105, 110, 103]⟩) 2 (.string ⟨#[104, 116, 116, 112, 58, 47, 47, 119, 119, 119, 46, 119, 51, 46, 111, 114, 103, 47, 49, 57, 57, 57, 47, 48, 50, 47, 50, 50, 45, 114, 100, 102, 45, 115, 121, 110, 116, 97, 120, 45, 110, 115, 35, 108, 97, 110, 103, 83, 116, 114, 105, 110, 103]⟩) rfl).2.2).mono ?_
        rintro e w5 ⟨rfl, hb5⟩
        have HB5 := Lib.hid ((HB4.out.set (t' := ⟨#[104, 116, 116, 112, 58, 47, 47, 119, 119, 119, 46, 119, 51, 46, 111, 114, 103, 47, 49, 57, 57, 57, 47, 48, 50, 47, 50, 50, 45, 114, 100, 102, 45, 115, 121, 110, 116, 97, 120, 45, 110, 115, 35, 108, 97, 110, 103, 83, 116, 114, 105, 110, 103]⟩) 2 (.string ⟨#[104, 116, 116, 112, 58, 47, 47, 119, 119, 119, 46, 119, 51, 46, 111, 114, 103, 47, 49, 57, 57, 57, 47, 48, 50, 47, 50, 50, 45, 114, 100, 102, 45, 115, 121, 110, 116, 97, 120, 45, 110, 115, 35, 108, 97, 110, 103, 83, 116, 114, 105, 110, 103]⟩) rfl).below hb5)
        clear hb5 x0 x1 x2 x3 xf0 xf1 xf2 xf3 z0 z1 z2 z3 zf0 zf1 zf2 zf3
        obtain ⟨x0, x1, x2, x3, xf⟩ := blk4 HB5.out.2.1
        have xf0 := xf 0
        have xf1 := xf 1
        have xf2 := xf 2
        have xf3 := xf 3
        obtain ⟨z0, z1, z2, z3, zf⟩ := blk4 HB5.out.1
        have zf0 := zf 0
        have zf1 := zf 1
        have zf2 := zf 2
        have zf3 := zf 3
        clear xf zf
        have HGX : Hid (∀ w2, Calls Tryz.prog 23 #[.agg #[.int .i64 2, .string (tBytes t), .string ⟨#[104, 116, 116, 112, 58, 47, 47, 119, 119, 119, 46, 119, 51, 46, 111, 114, 103, 47, 49, 57, 57, 57, 47, 48, 50, 47, 50, 50, 45, 114, 100, 102, 45, 115, 121, 110, 116, 97, 120, 45, 110, 115, 35, 108, 97, 110, 103, 83, 116, 114, 105, 110, 103]⟩, .string (tBytes y)]] w2 fun e w' => e = .returned (.bool (G (.lit (tBytes t) ⟨#[104, 116, 116, 112, 58, 47, 47, 119, 119, 119, 46, 119, 51, 46, 111, 114, 103, 47, 49, 57, 57, 57, 47, 48, 50, 47, 50, 50, 45, 114, 100, 102, 45, 115, 121, 110, 116, 97, 120, 45, 110, 115, 35, 108, 97, 110, 103, 83, 116, 114, 105, 110, 103]⟩ (tBytes y)))) ∧ Below w2.heap.size w2 w') := Lib.hid (fun w2 => (HGF.out (.lit (tBytes t) ⟨#[104, 116, 116, 112, 58, 47, 47, 119, 119, 119, 46, 119, 51, 46, 111, 114, 103, 47, 49, 57, 57, 57, 47, 48, 50, 47, 50, 50, 45, 114, 100, 102, 45, 115, 121, 110, 116, 97, 120, 45, 110, 115, 35, 108, 97, 110, 103, 83, 116, 114, 105, 110, 103]⟩ (tBytes y)) (form_facts HL.out HLB.out HFO.out).2.2.1).2.1 w2)
        obtain ⟨gx, hgx⟩ : ∃ gx, gx = G (.lit (tBytes t) ⟨#[104, 116, 116, 112, 58, 47, 47, 119, 119, 119, 46, 119, 51, 46, 111, 114, 103, 47, 49, 57, 57, 57, 47, 48, 50, 47, 50, 50, 45, 114, 100, 102, 45, 115, 121, 110, 116, 97, 120, 45, 110, 115, 35, 108, 97, 110, 103, 83, 116, 114, 105, 110, 103]⟩ (tBytes y)) := ⟨_, rfl⟩
        rw [← hgx] at HGX
        cases gx with
        | true =>
          have HRR : Hid (R = (some (.lit (tBytes t) ⟨#[104, 116, 116, 112, 58, 47, 47, 119, 119, 119, 46, 119, 51, 46, 111, 114, 103, 47, 49, 57, 57, 57, 47, 48, 50, 47, 50, 50, 45, 114, 100, 102, 45, 115, 121, 110, 116, 97, 120, 45, 110, 115, 35, 108, 97, 110, 103, 83, 116, 114, 105, 110, 103]⟩ (tBytes y)), k, 0)) := Lib.hid (by rw [HR.out]; unfold readT; rw [HFO.out]; dsimp only; rw [if_pos hgx.symm])
          clear hgx
          go_wp2_with fail
          refine (HGX.out _).mono ?_
          rintro e w9 ⟨rfl, hb9⟩
          have HB9 := Lib.hid ((HB5.out.set (g' := tBytes y) 3 (.string (tBytes y)) rfl).below hb9)
          clear hb9 x0 x1 x2 x3 xf0 xf1 xf2 xf3 z0 z1 z2 z3 zf0 zf1 zf2 zf3
          obtain ⟨x0, x1, x2, x3, xf⟩ := blk4 HB9.out.2.1
          have xf0 := xf 0
          have xf1 := xf 1
          have xf2 := xf 2
          have xf3 := xf 3
          obtain ⟨z0, z1, z2, z3, zf⟩ := blk4 HB9.out.1
          have zf0 := zf 0
          have zf1 := zf 1
          have zf2 := zf 2
          have zf3 := zf 3
          clear xf zf
          go_wp2_with fail
          refine bodyPost_ret (v := .tuple #[.agg #[.int .i64 2, .string (tBytes t), .string ⟨#[104, 116, 116, 112, 58, 47, 47, 119, 119, 119, 46, 119, 51, 46, 111, 114, 103, 47, 49, 57, 57, 57, 47, 48, 50, 47, 50, 50, 45, 114, 100, 102, 45, 115, 121, 110, 116, 97, 120, 45, 110, 115, 35, 108, 97, 110, 103, 83, 116, 114, 105, 110, 103]⟩, .string (tBytes y)], .int .i64 k, .int .i64 0]) (by simp [results, Tryz.results26, go_sem, z0, z1, z2, z3]) rfl ?_
          rw [HRR.out]
          exact ⟨rfl, RB.end4 HB9.out _ _ _ _⟩
        | false =>
          have HRR : Hid (R = (none, p, 3)) := Lib.hid (by rw [HR.out]; unfold readT; rw [HFO.out]; dsimp only; rw [if_neg (by rw [← hgx]; decide)])
          clear hgx
          go_wp2_with fail
          refine (HGX.out _).mono ?_
          rintro e w9 ⟨rfl, hb9⟩
          have HB9 := Lib.hid ((HB5.out.set (g' := tBytes y) 3 (.string (tBytes y)) rfl).below hb9)
          clear hb9 x0 x1 x2 x3 xf0 xf1 xf2 xf3 z0 z1 z2 z3 zf0 zf1 zf2 zf3
          obtain ⟨x0, x1, x2, x3, xf⟩ := blk4 HB9.out.2.1
          have xf0 := xf 0
          have xf1 := xf 1
          have xf2 := xf 2
          have xf3 := xf 3
          obtain ⟨z0, z1, z2, z3, zf⟩ := blk4 HB9.out.1
          have zf0 := zf 0
          have zf1 := zf 1
          have zf2 := zf 2
          have zf3 := zf 3
          clear xf zf
          go_wp2_with fail
          refine bodyPost_ret (v := .tuple #[.agg #[.int .i64 0, .string ⟨#[]⟩, .string ⟨#[]⟩, .string ⟨#[]⟩], .int .i64 p, .int .i64 3]) (by simp [results, Tryz.results26, go_sem, z0, z1, z2, z3]) rfl ?_
          rw [HRR.out]
          exact ⟨rfl, RB.end4 HB9.out _ _ _ _⟩
      · rw [decide_eq_false h64] at HSC
        rw [if_neg h64] at HF
        have HFO : Hid (formT l p = (some (.lit (tBytes t) ⟨#[104, 116, 116, 112, 58, 47, 47, 119, 119, 119, 46, 119, 51, 46, 111, 114, 103, 47, 50, 48, 48, 49, 47, 88, 77, 76, 83, 99, 104, 101, 109, 97, 35, 115, 116, 114, 105, 110, 103]⟩ ⟨#[]⟩), j)) := HF
        clear h94 h64 HF HSB
        go_enter Tryz.func26, Tryz.ntmps26
        go_wp2_with fail
        rw [← HW1.out]
        refine HS.out.mono ?_
        rintro e w' ⟨rfl, rfl⟩
        go_wp2_with fail
        refine HS2.out.mono ?_
        rintro e w' ⟨rfl, rfl⟩
        go_wp2_with fail
        refine HS3.out.mono ?_
        rintro e w' ⟨rfl, rfl⟩
        go_wp2_with fail
        refine HQ.out.mono ?_
        rintro e w2 ⟨qa, qc, rfl, ho2, hb2⟩
        have HT := Lib.hid (text_any t qa t.length qc 0 w2 (own_rcls ho2 rfl HRW.out) HSG.out htl)
        have HB2 := Lib.hid (HB1.out.below hb2)
        clear hb2 x0 x1 x2 x3 xf0 xf1 xf2 xf3 z0 z1 z2 z3 zf0 zf1 zf2 zf3 ho2
        dsimp only [Option.getD, Option.isSome]
        go_wp2_with fail
        refine HT.out.mono ?_
        rintro e w3 ⟨rfl, hb3⟩
        have HB3 := Lib.hid (HB2.out.below hb3)
        clear hb3
        obtain ⟨x0, x1, x2, x3, xf⟩ := blk4 HB3.out.2.1
        have xf0 := xf 0
        have xf1 := xf 1
        have xf2 := xf 2
        have xf3 := xf 3
        obtain ⟨z0, z1, z2, z3, zf⟩ := blk4 HB3.out.1
        have zf0 := zf 0
        have zf1 := zf 1
        have zf2 := zf 2
        have zf3 := zf 3
        clear xf zf
        obtain ⟨W4, hW4⟩ : ∃ W4, W4 = (((w3.setCell ⟨w.heap.size + 1, 0, none⟩ (.int .i64 2)).setCell ⟨w.heap.size + 1, 1, none⟩ (.string (tBytes t))).setCell ⟨w.heap.size + 1, 2, none⟩ (.string ⟨#[104, 116, 116, 112, 58, 47, 47, 119, 119, 119, 46, 119, 51, 46, 111, 114, 103, 47, 50, 48, 48, 49, 47, 88, 77, 76, 83, 99, 104, 101, 109, 97, 35, 115, 116, 114, 105, 110, 103]⟩)).setCell ⟨w.heap.size + 1, 3, none⟩ (.string ⟨#[]⟩) := ⟨_, rfl⟩
        have HB4 : Hid (RB w 2 (tBytes t) ⟨#[104, 116, 116, 112, 58, 47, 47, 119, 119, 119, 46, 119, 51, 46, 111, 114, 103, 47, 50, 48, 48, 49, 47, 88, 77, 76, 83, 99, 104, 101, 109, 97, 35, 115, 116, 114, 105, 110, 103]⟩ ⟨#[]⟩ W4) := Lib.hid (by rw [hW4]; exact (((HB3.out.set (k' := 2) 0 (.int .i64 2) rfl).set 1 (.string (tBytes t)) rfl).set (t' := ⟨#[104, 116, 116, 112, 58, 47, 47, 119, 119, 119, 46, 119, 51, 46, 111, 114, 103, 47, 50, 48, 48, 49, 47, 88, 77, 76, 83, 99, 104, 101, 109, 97, 35, 115, 116, 114, 105, 110, 103]⟩) 2 (.string ⟨#[104, 116, 116, 112, 58, 47, 47, 119, 119, 119, 46, 119, 51, 46, 111, 114, 103, 47, 50, 48, 48, 49, 47, 88, 77, 76, 83, 99, 104, 101, 109, 97, 35, 115, 116, 114, 105, 110, 103]⟩) rfl).set 3 (.string ⟨#[]⟩) rfl)
        have HW4 := Lib.hid hW4
        clear hW4
        go_wp2_with fail
        rw [← HW4.out]
        clear x0 x1 x2 x3 xf0 xf1 xf2 xf3 z0 z1 z2 z3 zf0 zf1 zf2 zf3
        obtain ⟨x0, x1, x2, x3, xf⟩ := blk4 HB4.out.2.1
        have xf0 := xf 0
        have xf1 := xf 1
        have xf2 := xf 2
        have xf3 := xf 3
        obtain ⟨z0, z1, z2, z3, zf⟩ := blk4 HB4.out.1
        have zf0 := zf 0
        have zf1 := zf 1
        have zf2 := zf 2
        have zf3 := zf 3
        clear xf zf
        refine (HSA.out _ HB4.out.2.2).mono ?_
        rintro e w' ⟨rfl, rfl⟩
        go_wp2_with fail
        refine (HSC.out _ HB4.out.2.2).mono ?_
        rintro e w' ⟨rfl, rfl⟩
        have HGX : Hid (∀ w2, Calls Tryz.prog 23 #[.agg #[.int .i64 2, .string (tBytes t), .string ⟨#[104, 116, 116, 112, 58, 47, 47, 119, 119, 119, 46, 119, 51, 46, 111, 114, 103, 47, 50, 48, 48, 49, 47, 88, 77, 76, 83, 99, 104, 101, 109, 97, 35, 115, 116, 114, 105, 110, 103]⟩, .string ⟨#[]⟩]] w2 fun e w' => e = .returned (.bool (G (.lit (tBytes t) ⟨#[104, 116, 116, 112, 58, 47, 47, 119, 119, 119, 46, 119, 51, 46, 111, 114, 103, 47, 50, 48, 48, 49, 47, 88, 77, 76, 83, 99, 104, 101, 109, 97, 35, 115, 116, 114, 105, 110, 103]⟩ ⟨#[]⟩))) ∧ Below w2.heap.size w2 w') := Lib.hid (fun w2 => (HGF.out (.lit (tBytes t) ⟨#[104, 116, 116, 112, 58, 47, 47, 119, 119, 119, 46, 119, 51, 46, 111, 114, 103, 47, 50, 48, 48, 49, 47, 88, 77, 76, 83, 99, 104, 101, 109, 97, 35, 115, 116, 114, 105, 110, 103]⟩ ⟨#[]⟩) (form_facts HL.out HLB.out HFO.out).2.2.1).2.1 w2)
        obtain ⟨gx, hgx⟩ : ∃ gx, gx = G (.lit (tBytes t) ⟨#[104, 116, 116, 112, 58, 47, 47, 119, 119, 119, 46, 119, 51, 46, 111, 114, 103, 47, 50, 48, 48, 49, 47, 88, 77, 76, 83, 99, 104, 101, 109, 97, 35, 115, 116, 114, 105, 110, 103]⟩ ⟨#[]⟩) := ⟨_, rfl⟩
        rw [← hgx] at HGX
        cases gx with
        | true =>
          have HRR : Hid (R = (some (.lit (tBytes t) ⟨#[104, 116, 116, 112, 58, 47, 47, 119, 119, 119, 46, 119, 51, 46, 111, 114, 103, 47, 50, 48, 48, 49, 47, 88, 77, 76, 83, 99, 104, 101, 109, 97, 35, 115, 116, 114, 105, 110, 103]⟩ ⟨#[]⟩), j, 0)) := Lib.hid (by rw [HR.out]; unfold readT; rw [HFO.out]; dsimp only; rw [if_pos hgx.symm])
          clear hgx
          go_wp2_with fail
          refine (HGX.out _).mono ?_
          rintro e w9 ⟨rfl, hb9⟩
          have HB9 := Lib.hid ((HB4.out).below hb9)
          clear hb9 x0 x1 x2 x3 xf0 xf1 xf2 xf3 z0 z1 z2 z3 zf0 zf1 zf2 zf3
          obtain ⟨x0, x1, x2, x3, xf⟩ := blk4 HB9.out.2.1
          have xf0 := xf 0
          have xf1 := xf 1
          have xf2 := xf 2
          have xf3 := xf 3
          obtain ⟨z0, z1, z2, z3, zf⟩ := blk4 HB9.out.1
          have zf0 := zf 0
          have zf1 := zf 1
          have zf2 := zf 2
          have zf3 := zf 3
          clear xf zf
          go_wp2_with fail
          refine bodyPost_ret (v := .tuple #[.agg #[.int .i64 2, .string (tBytes t), .string ⟨#[104, 116, 116, 112, 58, 47, 47, 119, 119, 119, 46, 119, 51, 46, 111, 114, 103, 47, 50, 48, 48, 49, 47, 88, 77, 76, 83, 99, 104, 101, 109, 97, 35, 115, 116, 114, 105, 110, 103]⟩, .string ⟨#[]⟩], .int .i64 j, .int .i64 0]) (by simp [results, Tryz.results26, go_sem, z0, z1, z2, z3]) rfl ?_
          rw [HRR.out]
          exact ⟨rfl, RB.end4 HB9.out _ _ _ _⟩
        | false =>
          have HRR : Hid (R = (none, p, 3)) := Lib.hid (by rw [HR.out]; unfold readT; rw [HFO.out]; dsimp only; rw [if_neg (by rw [← hgx]; decide)])
          clear hgx
          go_wp2_with fail
          refine (HGX.out _).mono ?_
          rintro e w9 ⟨rfl, hb9⟩
          have HB9 := Lib.hid ((HB4.out).below hb9)
          clear hb9 x0 x1 x2 x3 xf0 xf1 xf2 xf3 z0 z1 z2 z3 zf0 zf1 zf2 zf3
          obtain ⟨x0, x1, x2, x3, xf⟩ := blk4 HB9.out.2.1
          have xf0 := xf 0
          have xf1 := xf 1
          have xf2 := xf 2
          have xf3 := xf 3
          obtain ⟨z0, z1, z2, z3, zf⟩ := blk4 HB9.out.1
          have zf0 := zf 0
          have zf1 := zf 1
          have zf2 := zf 2
          have zf3 := zf 3
          clear xf zf
          go_wp2_with fail
          refine bodyPost_ret (v := .tuple #[.agg #[.int .i64 0, .string ⟨#[]⟩, .string ⟨#[]⟩, .string ⟨#[]⟩], .int .i64 p, .int .i64 3]) (by simp [results, Tryz.results26, go_sem, z0, z1, z2, z3]) rfl ?_
          rw [HRR.out]
          exact ⟨rfl, RB.end4 HB9.out _ _ _ _⟩
theorem rread_any {G : Tm → Bool} (hG : GoodFn G) {l : List Int} {a : Option Addr} {cs : Nat} {w : World} (p : Nat) (h : SgRow l a cs w) (hl : ∀ n ∈ l, SignP n) (hb : l.length ≤ 100000) (hp : p ≤ l.length) :
    Calls Tryz.prog 26 #[.slice a l.length cs, .int .i64 p] w (RReadEnd w (readT G l p)) := by
  by_cases h60 : pk l p = 60
  · exact rread_iri hG p h hl hb hp h60
  · by_cases h95 : pk l p = 95
    · exact rread_blank hG p h hl hb hp h95
    · by_cases h34 : pk l p = 34
      · exact rread_lit hG p h hl hb hp h34
      · exact rread_none hG p h hl hb hp h60 h95 h34
end Go.Proofs.YtbchkhjkajagfaaGreatDoor
