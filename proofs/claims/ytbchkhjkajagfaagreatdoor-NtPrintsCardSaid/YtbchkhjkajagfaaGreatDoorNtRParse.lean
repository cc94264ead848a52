/- Contract over this seat's program: the document's Parse. -/
import Derived.Test.YtbchkhjkajagfaaGreatDoorNtRGap
import Derived.Test.YtbchkhjkajagfaaGreatDoorNtRRead3
import Derived.Test.YtbchkhjkajagfaaGreatDoorNtFew
namespace Go.Proofs.YtbchkhjkajagfaaGreatDoor
open Go Go.RowKit
set_option linter.unusedVariables false
set_option linter.unusedSimpArgs false
set_option maxRecDepth 100000
/-- a term's cells, or nothing's -/
def rc (o : Option Tm) : List Value := match o with
  | some X => [.int .i64 (kindV X), .string (text0 X), .string (text1 X), .string (text2 X)]
  | none => [.int .i64 0, .string ⟨#[]⟩, .string ⟨#[]⟩, .string ⟨#[]⟩]
inductive RTg (G : Tm → Bool) (l : List Int) (p : Nat) : Nat → Nat → Array Value → Prop
  | zero : RTg G l p 0 p #[.int .i64 0, .string ⟨#[]⟩, .string ⟨#[]⟩, .string ⟨#[]⟩, .int .i64 0, .string ⟨#[]⟩, .string ⟨#[]⟩, .string ⟨#[]⟩, .int .i64 0, .string ⟨#[]⟩, .string ⟨#[]⟩, .string ⟨#[]⟩]
  | one (X : Tm) (q : Nat) (h1 : placeT G maySub l p = (some X, q, 0)) : RTg G l p 1 q #[.int .i64 (kindV X), .string (text0 X), .string (text1 X), .string (text2 X), .int .i64 0, .string ⟨#[]⟩, .string ⟨#[]⟩, .string ⟨#[]⟩, .int .i64 0, .string ⟨#[]⟩, .string ⟨#[]⟩, .string ⟨#[]⟩]
  | two (X Y : Tm) (q1 q : Nat) (h1 : placeT G maySub l p = (some X, q1, 0)) (h2 : placeT G mayPrd l q1 = (some Y, q, 0)) : RTg G l p 2 q #[.int .i64 (kindV X), .string (text0 X), .string (text1 X), .string (text2 X), .int .i64 (kindV Y), .string (text0 Y), .string (text1 Y), .string (text2 Y), .int .i64 0, .string ⟨#[]⟩, .string ⟨#[]⟩, .string ⟨#[]⟩]
  | three (X Y Z : Tm) (q1 q2 q : Nat) (h1 : placeT G maySub l p = (some X, q1, 0)) (h2 : placeT G mayPrd l q1 = (some Y, q2, 0)) (h3 : placeT G mayAny l q2 = (some Z, q, 0)) : RTg G l p 3 q #[.int .i64 (kindV X), .string (text0 X), .string (text1 X), .string (text2 X), .int .i64 (kindV Y), .string (text0 Y), .string (text1 Y), .string (text2 Y), .int .i64 (kindV Z), .string (text0 Z), .string (text1 Z), .string (text2 Z)]
def RParseEnd (w : World) (R : List Tri × Nat × Int) (e : Ending) (w' : World) : Prop :=
  ∃ V, e = .returned (.tuple #[V, .int .i64 R.2.1, .int .i64 R.2.2]) ∧ RTriRow w' w.heap.size V R.1 ∧ Below w.heap.size w w'
/-- behind so many lines: the signs' row below, the triples so far -/
def RS (w1 : World) (V : Value) (acc : List Tri) (wr : World) : Prop := Below w1.heap.size w1 wr ∧ RTriRow wr w1.heap.size V acc
theorem RS.below {w1 wr w' : World} {V : Value} {acc : List Tri} (h : RS w1 V acc wr) (hb : Below wr.heap.size wr w') : RS w1 V acc w' := ⟨h.1.trans (hb.mono h.1.size), h.2.below hb⟩
theorem RS.grow {w1 wr w' : World} {V V' : Value} {acc acc' : List Tri} (h : RS w1 V acc wr) (hr : RTriRow w' w1.heap.size V' acc') (hg : wr.grownBy w' V.ownBlock) : RS w1 V' acc' w' :=
  ⟨h.1.grown hg h.1.size (fun k hk => (h.2.own_lt k hk).1), hr⟩
/-- a store into a block made later than the triples' rows may lie -/
theorem RS.set {w1 wr : World} {V : Value} {acc : List Tri} (h : RS w1 V acc wr) {a : Addr} (ha : w1.heap.size ≤ a.block) (hne : V.ownBlock ≠ some a.block) (v : Value) : RS w1 V acc (wr.setCell a v) :=
  ⟨h.1.setCell ha v, h.2.kept_row (grownBy_setCell wr a v) hne⟩
theorem frz {w : World} {b : Nat} {cs : Array Value} {T : TypeId} (h : w.heap[b]? = some (.cells cs T (0, 0))) (j : Nat) : w.frozen? ⟨b, j, none⟩ = false := by simp [World.frozen?, h]
theorem read_kinds {G : Tm → Bool} {l : List Int} {i j : Nat} {c : Int} {o : Option Tm} (h : readT G l i = (o, j, c)) : (o = none → c ≠ 0) ∧ (c = 1 ∨ c = 3 ∨ c = 0) := by
  unfold readT at h
  split at h
  · injection h with h1 h2
    injection h2 with h2 h3
    exact ⟨fun _ => by omega, .inl h3.symm⟩
  · split at h
    · injection h with h1 h2
      injection h2 with h2 h3
      exact ⟨fun e => (by rw [e] at h1; cases h1), .inr (.inr h3.symm)⟩
    · injection h with h1 h2
      injection h2 with h2 h3
      exact ⟨fun _ => by omega, .inr (.inl h3.symm)⟩
set_option maxHeartbeats 12800000 in
theorem rparse_row {G : Tm → Bool} (hG : GoodFn G) (s : ByteArray) (l : List Int) (w : World) (h : Read s.data.toList l []) (hs : s.size ≤ 1048576) (hb : l.length ≤ 100000) :
    Calls Tryz.prog 11 #[.string s] w (RParseEnd w (parseT G l)) := by
  have HSI := Lib.hid (fun w => signs_row s l w h hs)
  have hl : Signs l := h.2.1
  have HL := Lib.hid hl
  have HLB := Lib.hid hb
  have HGF := Lib.hid hG
  have hb6 : l.length ≤ 1000000 := by omega
  obtain ⟨R, hR⟩ : ∃ R, R = parseT G l := ⟨_, rfl⟩
  have HR : Hid (parseGo G l (l.length + 1) 0 [] = R) := Lib.hid (by rw [hR]; rfl)
  rw [← hR]
  clear h hl hR hG
  go_enter Tryz.func11, Tryz.ntmps11
  go_wp2_with fail
  refine (HSI.out _).mono ?_
  rintro e w1 ⟨a, cs, rfl, hrow, hb1⟩
  have HROW := Lib.hid hrow
  have HB1 := Lib.hid hb1
  have HREAD := Lib.hid (fun (wx : World) (hw : Below w1.heap.size w1 wx) (q : Nat) (hq : q ≤ l.length) => rread_any HGF.out q (HROW.out.below hw) HL.out hb hq)
  have HOV := Lib.hid (fun (wx : World) (hw : Below w1.heap.size w1 wx) (q : Nat) (hq : q ≤ l.length) => rover_any q (HROW.out.below hw) HL.out hb6 hq)
  have HST := Lib.hid (fun (wx : World) (hw : Below w1.heap.size w1 wx) (q : Nat) (c : Int) (hc : 0 ≤ c ∧ c ≤ 255) (hq : q ≤ 2000000) => stands_any q c hc (HROW.out.below hw) HL.out hb6 hq)
  clear hrow hb1 HSI hb
  go_wp2_with fail
  go_loopg [7, 8] (l.length + 1) (fun gn V v8 wr => ∃ (i : Nat) (acc : List Tri), v8 = .int .i64 i ∧ i ≤ l.length ∧ l.length < gn + i ∧ Hid (acc.length ≤ i) ∧ Hid (parseGo G l gn i acc = R) ∧ Hid (RS w1 V acc wr))
  case atStart => exact ⟨0, [], rfl, by omega, by omega, Lib.hid (by simp), HR, Lib.hid ⟨Below.refl _ _, RowOf.nil _ _⟩⟩
  case round =>
    obtain ⟨i, acc, rfl, hi, hgi, hai, hQ, HS⟩ := hrel
    clear HR
    obtain ⟨wo, hwo⟩ : ∃ wo : World, wo = wr := ⟨_, rfl⟩
    subst hwo
    by_cases hil : i < l.length
    · obtain ⟨f, rfl⟩ : ∃ f, gk = f + 1 := ⟨gk - 1, by omega⟩
      have HQ : Hid ((match overT l i with
          | (j, true) => parseGo G l f j acc
          | (j, false) =>
            match tripleT G l j with
            | (none, k, c) => ([], k, c)
            | (some t, k, _) =>
              match overT l k with
              | (n, true) => parseGo G l f n (acc ++ [t])
              | (n, false) => ([], n, 1)) = R) := Lib.hid (by
        have h1 := hQ.out
        unfold parseGo at h1
        rw [if_neg (by omega)] at h1
        exact h1)
      have HO1 := Lib.hid (HOV.out wo HS.out.1 i hi)
      have HOF := Lib.hid (over_facts l hi)
      obtain ⟨p, b, hpb⟩ : ∃ p b, overT l i = (p, b) := ⟨_, _, rfl⟩
      rw [hpb] at HQ HO1 HOF
      dsimp only at HQ HO1 HOF
      have t0 : (i : Int) < (l.length : Int) := by omega
      clear hpb hQ
      cases b with
      | true =>
        dsimp only at HQ
        have hj1 : i < p := HOF.out.2.2.1 rfl hil
        have hj2 : p ≤ l.length := HOF.out.2.1
        clear HOF HREAD HST
        go_wp2_with fail
        refine HO1.out.mono ?_
        rintro e w' ⟨rfl, rfl⟩
        go_wp2_with fail
        go_roundg f
        case measure => omega
        case rel => exact ⟨p, acc, rfl, hj2, by omega, Lib.hid (by have := hai.out; omega), HQ, HS⟩
      | false =>
        dsimp only at HQ
        have hj1 : i ≤ p := HOF.out.1
        have hj2 : p < l.length := HOF.out.2.2.2 rfl
        clear HOF
        obtain ⟨B, hB⟩ : ∃ B, B = wo.heap.size := ⟨_, rfl⟩
        obtain ⟨W0, hW0⟩ : ∃ W0, W0 = wo.alloc (.cells #[.int .i64 0, .string ⟨#[]⟩, .string ⟨#[]⟩, .string ⟨#[]⟩, .int .i64 0, .string ⟨#[]⟩, .string ⟨#[]⟩, .string ⟨#[]⟩, .int .i64 0, .string ⟨#[]⟩, .string ⟨#[]⟩, .string ⟨#[]⟩] 58) := ⟨_, rfl⟩
        have hx0 : W0.heap[B]? = some (.cells #[.int .i64 0, .string ⟨#[]⟩, .string ⟨#[]⟩, .string ⟨#[]⟩, .int .i64 0, .string ⟨#[]⟩, .string ⟨#[]⟩, .string ⟨#[]⟩, .int .i64 0, .string ⟨#[]⟩, .string ⟨#[]⟩, .string ⟨#[]⟩] 58 (0, 0)) := by rw [hW0, hB]; exact blk_new wo _ _
        have HBB : Hid (w1.heap.size ≤ B) := Lib.hid (by rw [hB]; exact HS.out.1.size)
        have HNB : Hid (u7.ownBlock ≠ some B) := Lib.hid (fun e => by have := (HS.out.2.own_lt B e).2; omega)
        have HS0 : Hid (RS w1 u7 acc W0 ∧ W0.heap[B]? = some (.cells #[.int .i64 0, .string ⟨#[]⟩, .string ⟨#[]⟩, .string ⟨#[]⟩, .int .i64 0, .string ⟨#[]⟩, .string ⟨#[]⟩, .string ⟨#[]⟩, .int .i64 0, .string ⟨#[]⟩, .string ⟨#[]⟩, .string ⟨#[]⟩] 58 (0, 0)) ∧ p ≤ l.length) := Lib.hid ⟨by rw [hW0]; exact HS.out.below ((Below.refl _ _).alloc (Nat.le_refl _) _), hx0, by omega⟩
        have HW0 := Lib.hid hW0
        have HBW := Lib.hid hB
        clear hx0 hW0
        go_wp2_with fail
        refine HO1.out.mono ?_
        rintro e w' ⟨rfl, rfl⟩
        go_wp2_with fail
        rw [← HBW.out, ← HW0.out]
        clear hB
        go_loopw [8, 12] (fun v8 v12 wr => ∃ (k q : Nat) (xs : Array Value), v12 = .int .i64 k ∧ v8 = .int .i64 q ∧ Hid (RTg G l p k q xs) ∧ Hid (RS w1 u7 acc wr ∧ wr.heap[B]? = some (.cells xs 58 (0, 0)) ∧ q ≤ l.length)) (fun _ v12 _ => 3 - (intOf v12).toNat)
        case atStart => exact ⟨0, p, _, rfl, rfl, Lib.hid .zero, HS0⟩
        case round =>
          obtain ⟨k, q, xs, rfl, rfl, HT, HS⟩ := hrel
          clear HS0
          cases HT.out with
          | zero =>
            rw [show ((0 : Nat) : Int) = 0 from rfl]
            clear HT
            obtain ⟨o, j, c, hr⟩ : ∃ o j c, readT G l p = (o, j, c) := ⟨_, _, _, rfl⟩
            have HRD := Lib.hid (HREAD.out wr HS.out.1.1 p HS.out.2.2)
            rw [hr] at HRD
            unfold RReadEnd at HRD
            dsimp only at HRD
            have HRE := Lib.hid hr
            have hkk := read_kinds hr
            cases o with
            | none =>
              have hc0 : c ≠ 0 := hkk.1 rfl
              have t1 : (c != 0) = true := by simpa using hc0
              have HRR : Hid (([], j, c) = R) := Lib.hid (by
                rw [← HQ.out]
                have e : placeT G maySub l p = (none, j, c) := by unfold placeT; rw [HRE.out]
                have e2 : tripleT G l p = (none, j, c) := by unfold tripleT; skip; rw [e]
                rw [e2])
              unfold refO at HRD
              clear hc0 hkk hr
              go_wp2_with fail
              refine HRD.out.mono ?_
              rintro e w2 ⟨rfl, hb2⟩
              have HS2 := Lib.hid ((HS.out.1.below hb2).below ((Below.refl _ _).alloc (Nat.le_refl _) (.cells #[.int .i64 0, .string ⟨#[]⟩, .string ⟨#[]⟩, .string ⟨#[]⟩] 27)))
              clear hb2
              go_wp2_with fail
              refine bodyPost_ret (v := .tuple #[.slice none 0 0, .int .i64 j, .int .i64 c]) (by simp [results, Tryz.results11, go_sem]) rfl ?_
              rw [← HRR.out]
              exact ⟨_, rfl, RowOf.nil _ _, HB1.out.trans (HS2.out.1.mono HB1.out.size)⟩
            | some Y =>
              have hrf := read_facts HL.out HLB.out hr
              have hc0 : c = 0 := hrf.1
              subst hc0
              have hjl : j ≤ l.length := hrf.2.2.1
              have hgf := gap_facts l hjl
              have HGP := Lib.hid (fun (wx : World) (hw : Below w1.heap.size w1 wx) => rgap_any j (HROW.out.below hw) HL.out hb6 hjl)
              unfold refO at HRD
              dsimp only at HRD
              by_cases hm : maySub Y = true
              · have HPL : Hid (placeT G maySub l p = (some Y, gapT l j, 0)) := Lib.hid (by unfold placeT; rw [HRE.out]; dsimp only; rw [if_pos hm])
                have k1 : decide ((1 : Int) < kindV Y) = false := decide_eq_false (by have := of_decide_eq_true hm; omega)
                have hgl := hgf.2
                clear hkk hr hrf hm hgf hjl
                go_wp2_with fail
                refine HRD.out.mono ?_
                rintro e w2 ⟨rfl, hb2⟩
                have HA2 := Lib.hid (blk_below HS.out.2.1 hb2)
                have hBlt : B < w2.heap.size := lt_blk HA2.out
                have fz0 := frz HA2.out 0
                have fz1 := frz HA2.out 1
                have fz2 := frz HA2.out 2
                have fz3 := frz HA2.out 3
                obtain ⟨m0, m1, m2, m3, m4, m5, m6, m7, m8, m9, m10, m11⟩ := cells12 HA2.out
                have HS3 := Lib.hid (((((HS.out.1.below hb2).set (a := ⟨B, 0, none⟩) HBB.out HNB.out (.int .i64 (kindV Y))).set (a := ⟨B, 1, none⟩) HBB.out HNB.out (.string (text0 Y))).set (a := ⟨B, 2, none⟩) HBB.out HNB.out (.string (text1 Y))).set (a := ⟨B, 3, none⟩) HBB.out HNB.out (.string (text2 Y)))
                have HA3 : Hid (((((w2.setCell ⟨B, 0, none⟩ (.int .i64 (kindV Y))).setCell ⟨B, 1, none⟩ (.string (text0 Y))).setCell ⟨B, 2, none⟩ (.string (text1 Y))).setCell ⟨B, 3, none⟩ (.string (text2 Y))).heap[B]? = some (.cells #[.int .i64 (kindV Y), .string (text0 Y), .string (text1 Y), .string (text2 Y), .int .i64 0, .string ⟨#[]⟩, .string ⟨#[]⟩, .string ⟨#[]⟩, .int .i64 0, .string ⟨#[]⟩, .string ⟨#[]⟩, .string ⟨#[]⟩] 58 (0, 0))) := Lib.hid (set_at (i := 3) (set_at (i := 2) (set_at (i := 1) (set_at (i := 0) HA2.out (.int .i64 (kindV Y))) (.string (text0 Y))) (.string (text1 Y))) (.string (text2 Y)))
                have HS4 := Lib.hid (HS3.out.below ((Below.refl _ _).alloc (Nat.le_refl _) (.cells #[.int .i64 (kindV Y), .string (text0 Y), .string (text1 Y), .string (text2 Y)] 27)))
                have HA4 := Lib.hid (blk_below HA3.out ((Below.refl _ _).alloc (Nat.le_refl _) (.cells #[.int .i64 (kindV Y), .string (text0 Y), .string (text1 Y), .string (text2 Y)] 27)))
                clear hb2 HS3 HA3 HA2
                go_wp2_with fail
                generalize (((((w2.setCell ⟨B, 0, none⟩ (.int .i64 (kindV Y))).setCell ⟨B, 1, none⟩ (.string (text0 Y))).setCell ⟨B, 2, none⟩ (.string (text1 Y))).setCell ⟨B, 3, none⟩ (.string (text2 Y))).alloc (.cells #[.int .i64 (kindV Y), .string (text0 Y), .string (text1 Y), .string (text2 Y)] 27)) = W4 at *
                clear fz0 fz1 fz2 fz3 m0 m1 m2 m3 m4 m5 m6 m7 m8 m9 m10 m11 hBlt
                refine (HGP.out _ HS4.out.1).mono ?_
                rintro e w' ⟨rfl, rfl⟩
                go_wp2_with fail
                go_round
                case measure => simp [intOf]
                case rel => exact ⟨0 + 1, _, _, rfl, rfl, Lib.hid (.one Y _ HPL.out), Lib.hid ⟨HS4.out, HA4.out, hgl⟩⟩
              · have hmf : maySub Y = false := by simpa using hm
                have HRR : Hid (([], p, 3) = R) := Lib.hid (by
                  rw [← HQ.out]
                  have e : placeT G maySub l p = (none, p, 3) := by unfold placeT; rw [HRE.out]; dsimp only; rw [if_neg hm]
                  have e2 : tripleT G l p = (none, p, 3) := by unfold tripleT; skip; rw [e]
                  rw [e2])
                have k1 : decide ((1 : Int) < kindV Y) = true := decide_eq_true (by have := of_decide_eq_false hmf; omega)
                clear hkk hr hrf hm hgf hjl hmf
                go_wp2_with fail
                refine HRD.out.mono ?_
                rintro e w2 ⟨rfl, hb2⟩
                obtain ⟨W3, hW3⟩ : ∃ W3, W3 = w2.alloc (.cells #[.int .i64 (kindV Y), .string (text0 Y), .string (text1 Y), .string (text2 Y)] 27) := ⟨_, rfl⟩
                have hb3 : Below w2.heap.size w2 W3 := by rw [hW3]; exact (Below.refl _ _).alloc (Nat.le_refl _) _
                have HS3 := Lib.hid ((HS.out.1.below hb2).below hb3)
                have HW3 := Lib.hid hW3
                clear hb2 hb3 hW3
                go_wp2_with fail
                refine bodyPost_ret (v := .tuple #[.slice none 0 0, .int .i64 p, .int .i64 3]) (by simp [results, Tryz.results11, go_sem]) rfl ?_
                rw [← HRR.out]
                refine ⟨_, rfl, RowOf.nil _ _, ?_⟩
                rw [← HW3.out]
                exact HB1.out.trans (HS3.out.1.mono HB1.out.size)
          | one X0 _ h1 =>
            rw [show ((1 : Nat) : Int) = 1 from rfl]
            have H1 := Lib.hid h1
            clear HT h1
            obtain ⟨o, j, c, hr⟩ : ∃ o j c, readT G l q = (o, j, c) := ⟨_, _, _, rfl⟩
            have HRD := Lib.hid (HREAD.out wr HS.out.1.1 q HS.out.2.2)
            rw [hr] at HRD
            unfold RReadEnd at HRD
            dsimp only at HRD
            have HRE := Lib.hid hr
            have hkk := read_kinds hr
            cases o with
            | none =>
              have hc0 : c ≠ 0 := hkk.1 rfl
              have t1 : (c != 0) = true := by simpa using hc0
              have HRR : Hid (([], j, c) = R) := Lib.hid (by
                rw [← HQ.out]
                have e : placeT G mayPrd l q = (none, j, c) := by unfold placeT; rw [HRE.out]
                have e2 : tripleT G l p = (none, j, c) := by unfold tripleT; rw [H1.out]; dsimp only; rw [e]
                rw [e2])
              unfold refO at HRD
              clear hc0 hkk hr
              go_wp2_with fail
              refine HRD.out.mono ?_
              rintro e w2 ⟨rfl, hb2⟩
              have HS2 := Lib.hid ((HS.out.1.below hb2).below ((Below.refl _ _).alloc (Nat.le_refl _) (.cells #[.int .i64 0, .string ⟨#[]⟩, .string ⟨#[]⟩, .string ⟨#[]⟩] 27)))
              clear hb2
              go_wp2_with fail
              refine bodyPost_ret (v := .tuple #[.slice none 0 0, .int .i64 j, .int .i64 c]) (by simp [results, Tryz.results11, go_sem]) rfl ?_
              rw [← HRR.out]
              exact ⟨_, rfl, RowOf.nil _ _, HB1.out.trans (HS2.out.1.mono HB1.out.size)⟩
            | some Y =>
              have hrf := read_facts HL.out HLB.out hr
              have hc0 : c = 0 := hrf.1
              subst hc0
              have hjl : j ≤ l.length := hrf.2.2.1
              have hgf := gap_facts l hjl
              have HGP := Lib.hid (fun (wx : World) (hw : Below w1.heap.size w1 wx) => rgap_any j (HROW.out.below hw) HL.out hb6 hjl)
              unfold refO at HRD
              dsimp only at HRD
              by_cases hm : mayPrd Y = true
              · have HPL : Hid (placeT G mayPrd l q = (some Y, gapT l j, 0)) := Lib.hid (by unfold placeT; rw [HRE.out]; dsimp only; rw [if_pos hm])
                have k1 : (kindV Y != 1) = false := by have := of_decide_eq_true hm; simpa using this
                have hgl := hgf.2
                clear hkk hr hrf hm hgf hjl
                go_wp2_with fail
                refine HRD.out.mono ?_
                rintro e w2 ⟨rfl, hb2⟩
                have HA2 := Lib.hid (blk_below HS.out.2.1 hb2)
                have hBlt : B < w2.heap.size := lt_blk HA2.out
                have fz0 := frz HA2.out 4
                have fz1 := frz HA2.out 5
                have fz2 := frz HA2.out 6
                have fz3 := frz HA2.out 7
                obtain ⟨m0, m1, m2, m3, m4, m5, m6, m7, m8, m9, m10, m11⟩ := cells12 HA2.out
                have HS3 := Lib.hid (((((HS.out.1.below hb2).set (a := ⟨B, 4, none⟩) HBB.out HNB.out (.int .i64 (kindV Y))).set (a := ⟨B, 5, none⟩) HBB.out HNB.out (.string (text0 Y))).set (a := ⟨B, 6, none⟩) HBB.out HNB.out (.string (text1 Y))).set (a := ⟨B, 7, none⟩) HBB.out HNB.out (.string (text2 Y)))
                have HA3 : Hid (((((w2.setCell ⟨B, 4, none⟩ (.int .i64 (kindV Y))).setCell ⟨B, 5, none⟩ (.string (text0 Y))).setCell ⟨B, 6, none⟩ (.string (text1 Y))).setCell ⟨B, 7, none⟩ (.string (text2 Y))).heap[B]? = some (.cells #[.int .i64 (kindV X0), .string (text0 X0), .string (text1 X0), .string (text2 X0), .int .i64 (kindV Y), .string (text0 Y), .string (text1 Y), .string (text2 Y), .int .i64 0, .string ⟨#[]⟩, .string ⟨#[]⟩, .string ⟨#[]⟩] 58 (0, 0))) := Lib.hid (set_at (i := 7) (set_at (i := 6) (set_at (i := 5) (set_at (i := 4) HA2.out (.int .i64 (kindV Y))) (.string (text0 Y))) (.string (text1 Y))) (.string (text2 Y)))
                have HS4 := Lib.hid (HS3.out.below ((Below.refl _ _).alloc (Nat.le_refl _) (.cells #[.int .i64 (kindV Y), .string (text0 Y), .string (text1 Y), .string (text2 Y)] 27)))
                have HA4 := Lib.hid (blk_below HA3.out ((Below.refl _ _).alloc (Nat.le_refl _) (.cells #[.int .i64 (kindV Y), .string (text0 Y), .string (text1 Y), .string (text2 Y)] 27)))
                clear hb2 HS3 HA3 HA2
                go_wp2_with fail
                generalize (((((w2.setCell ⟨B, 4, none⟩ (.int .i64 (kindV Y))).setCell ⟨B, 5, none⟩ (.string (text0 Y))).setCell ⟨B, 6, none⟩ (.string (text1 Y))).setCell ⟨B, 7, none⟩ (.string (text2 Y))).alloc (.cells #[.int .i64 (kindV Y), .string (text0 Y), .string (text1 Y), .string (text2 Y)] 27)) = W4 at *
                clear fz0 fz1 fz2 fz3 m0 m1 m2 m3 m4 m5 m6 m7 m8 m9 m10 m11 hBlt
                refine (HGP.out _ HS4.out.1).mono ?_
                rintro e w' ⟨rfl, rfl⟩
                go_wp2_with fail
                go_round
                case measure => simp [intOf]
                case rel => exact ⟨1 + 1, _, _, rfl, rfl, Lib.hid (.two X0 Y q _ H1.out HPL.out), Lib.hid ⟨HS4.out, HA4.out, hgl⟩⟩
              · have hmf : mayPrd Y = false := by simpa using hm
                have HRR : Hid (([], q, 3) = R) := Lib.hid (by
                  rw [← HQ.out]
                  have e : placeT G mayPrd l q = (none, q, 3) := by unfold placeT; rw [HRE.out]; dsimp only; rw [if_neg hm]
                  have e2 : tripleT G l p = (none, q, 3) := by unfold tripleT; rw [H1.out]; dsimp only; rw [e]
                  rw [e2])
                have k1 : (kindV Y != 1) = true := by have := of_decide_eq_false hmf; simpa using this
                clear hkk hr hrf hm hgf hjl hmf
                go_wp2_with fail
                refine HRD.out.mono ?_
                rintro e w2 ⟨rfl, hb2⟩
                obtain ⟨W3, hW3⟩ : ∃ W3, W3 = w2.alloc (.cells #[.int .i64 (kindV Y), .string (text0 Y), .string (text1 Y), .string (text2 Y)] 27) := ⟨_, rfl⟩
                have hb3 : Below w2.heap.size w2 W3 := by rw [hW3]; exact (Below.refl _ _).alloc (Nat.le_refl _) _
                have HS3 := Lib.hid ((HS.out.1.below hb2).below hb3)
                have HW3 := Lib.hid hW3
                clear hb2 hb3 hW3
                go_wp2_with fail
                refine bodyPost_ret (v := .tuple #[.slice none 0 0, .int .i64 q, .int .i64 3]) (by simp [results, Tryz.results11, go_sem]) rfl ?_
                rw [← HRR.out]
                refine ⟨_, rfl, RowOf.nil _ _, ?_⟩
                rw [← HW3.out]
                exact HB1.out.trans (HS3.out.1.mono HB1.out.size)
          | two X0 X1 q1 _ h1 h2 =>
            rw [show ((2 : Nat) : Int) = 2 from rfl]
            have H1 := Lib.hid h1
            have H2 := Lib.hid h2
            clear HT h1 h2
            obtain ⟨o, j, c, hr⟩ : ∃ o j c, readT G l q = (o, j, c) := ⟨_, _, _, rfl⟩
            have HRD := Lib.hid (HREAD.out wr HS.out.1.1 q HS.out.2.2)
            rw [hr] at HRD
            unfold RReadEnd at HRD
            dsimp only at HRD
            have HRE := Lib.hid hr
            have hkk := read_kinds hr
            cases o with
            | none =>
              have hc0 : c ≠ 0 := hkk.1 rfl
              have t1 : (c != 0) = true := by simpa using hc0
              have HRR : Hid (([], j, c) = R) := Lib.hid (by
                rw [← HQ.out]
                have e : placeT G mayAny l q = (none, j, c) := by unfold placeT; rw [HRE.out]
                have e2 : tripleT G l p = (none, j, c) := by unfold tripleT; rw [H1.out]; dsimp only; rw [H2.out]; dsimp only; rw [e]
                rw [e2])
              unfold refO at HRD
              clear hc0 hkk hr
              go_wp2_with fail
              refine HRD.out.mono ?_
              rintro e w2 ⟨rfl, hb2⟩
              have HS2 := Lib.hid ((HS.out.1.below hb2).below ((Below.refl _ _).alloc (Nat.le_refl _) (.cells #[.int .i64 0, .string ⟨#[]⟩, .string ⟨#[]⟩, .string ⟨#[]⟩] 27)))
              clear hb2
              go_wp2_with fail
              refine bodyPost_ret (v := .tuple #[.slice none 0 0, .int .i64 j, .int .i64 c]) (by simp [results, Tryz.results11, go_sem]) rfl ?_
              rw [← HRR.out]
              exact ⟨_, rfl, RowOf.nil _ _, HB1.out.trans (HS2.out.1.mono HB1.out.size)⟩
            | some Y =>
              have hrf := read_facts HL.out HLB.out hr
              have hc0 : c = 0 := hrf.1
              subst hc0
              have hjl : j ≤ l.length := hrf.2.2.1
              have hgf := gap_facts l hjl
              have HGP := Lib.hid (fun (wx : World) (hw : Below w1.heap.size w1 wx) => rgap_any j (HROW.out.below hw) HL.out hb6 hjl)
              unfold refO at HRD
              dsimp only at HRD
              by_cases hm : mayAny Y = true
              · have HPL : Hid (placeT G mayAny l q = (some Y, gapT l j, 0)) := Lib.hid (by unfold placeT; rw [HRE.out]; dsimp only; rw [if_pos hm])
                skip
                have hgl := hgf.2
                clear hkk hr hrf hm hgf hjl
                go_wp2_with fail
                refine HRD.out.mono ?_
                rintro e w2 ⟨rfl, hb2⟩
                have HA2 := Lib.hid (blk_below HS.out.2.1 hb2)
                have hBlt : B < w2.heap.size := lt_blk HA2.out
                have fz0 := frz HA2.out 8
                have fz1 := frz HA2.out 9
                have fz2 := frz HA2.out 10
                have fz3 := frz HA2.out 11
                obtain ⟨m0, m1, m2, m3, m4, m5, m6, m7, m8, m9, m10, m11⟩ := cells12 HA2.out
                have HS3 := Lib.hid (((((HS.out.1.below hb2).set (a := ⟨B, 8, none⟩) HBB.out HNB.out (.int .i64 (kindV Y))).set (a := ⟨B, 9, none⟩) HBB.out HNB.out (.string (text0 Y))).set (a := ⟨B, 10, none⟩) HBB.out HNB.out (.string (text1 Y))).set (a := ⟨B, 11, none⟩) HBB.out HNB.out (.string (text2 Y)))
                have HA3 : Hid (((((w2.setCell ⟨B, 8, none⟩ (.int .i64 (kindV Y))).setCell ⟨B, 9, none⟩ (.string (text0 Y))).setCell ⟨B, 10, none⟩ (.string (text1 Y))).setCell ⟨B, 11, none⟩ (.string (text2 Y))).heap[B]? = some (.cells #[.int .i64 (kindV X0), .string (text0 X0), .string (text1 X0), .string (text2 X0), .int .i64 (kindV X1), .string (text0 X1), .string (text1 X1), .string (text2 X1), .int .i64 (kindV Y), .string (text0 Y), .string (text1 Y), .string (text2 Y)] 58 (0, 0))) := Lib.hid (set_at (i := 11) (set_at (i := 10) (set_at (i := 9) (set_at (i := 8) HA2.out (.int .i64 (kindV Y))) (.string (text0 Y))) (.string (text1 Y))) (.string (text2 Y)))
                have HS4 := Lib.hid (HS3.out.below ((Below.refl _ _).alloc (Nat.le_refl _) (.cells #[.int .i64 (kindV Y), .string (text0 Y), .string (text1 Y), .string (text2 Y)] 27)))
                have HA4 := Lib.hid (blk_below HA3.out ((Below.refl _ _).alloc (Nat.le_refl _) (.cells #[.int .i64 (kindV Y), .string (text0 Y), .string (text1 Y), .string (text2 Y)] 27)))
                clear hb2 HS3 HA3 HA2
                go_wp2_with fail
                generalize (((((w2.setCell ⟨B, 8, none⟩ (.int .i64 (kindV Y))).setCell ⟨B, 9, none⟩ (.string (text0 Y))).setCell ⟨B, 10, none⟩ (.string (text1 Y))).setCell ⟨B, 11, none⟩ (.string (text2 Y))).alloc (.cells #[.int .i64 (kindV Y), .string (text0 Y), .string (text1 Y), .string (text2 Y)] 27)) = W4 at *
                clear fz0 fz1 fz2 fz3 m0 m1 m2 m3 m4 m5 m6 m7 m8 m9 m10 m11 hBlt
                refine (HGP.out _ HS4.out.1).mono ?_
                rintro e w' ⟨rfl, rfl⟩
                go_wp2_with fail
                go_round
                case measure => simp [intOf]
                case rel => exact ⟨2 + 1, _, _, rfl, rfl, Lib.hid (.three X0 X1 Y q1 q _ H1.out H2.out HPL.out), Lib.hid ⟨HS4.out, HA4.out, hgl⟩⟩
              · exact absurd rfl hm
          | three X0 X1 X2 q1 q2 _ h1 h2 h3 =>
            rw [show ((3 : Nat) : Int) = 3 from rfl]
            have HTR : Hid (tripleT G l p = if pk l q = 46 then (some ⟨X0, X1, X2⟩, q + 1, 0) else (none, q, 1)) := Lib.hid (by unfold tripleT; rw [h1]; dsimp only; rw [h2]; dsimp only; rw [h3])
            have HPQ : Hid (p ≤ q) := Lib.hid (by have e1 := place_facts HL.out HLB.out h1; have e2 := place_facts HL.out HLB.out h2; have e3 := place_facts HL.out HLB.out h3; omega)
            clear HT h1 h2 h3
            have hql := HS.out.2.2
            have HSD := Lib.hid (fun wx hw => HST.out wx hw q 46 (by omega) (by omega))
            by_cases h46 : pk l q = 46
            · have hq1 : q + 1 ≤ l.length := by have := pk_lt h46 (by decide); omega
              rw [decide_eq_true h46] at HSD
              rw [if_pos h46] at HTR
              rw [HTR.out] at HQ
              dsimp only at HQ
              have HO2 := Lib.hid (fun wx hw => HOV.out wx hw (q + 1) hq1)
              rw [show ((q + 1 : Nat) : Int) = (q : Int) + 1 from by push_cast; rfl] at HO2
              have HOF2 := Lib.hid (over_facts l hq1)
              obtain ⟨n, b, hnb⟩ : ∃ n b, overT l (q + 1) = (n, b) := ⟨_, _, rfl⟩
              rw [hnb] at HQ HO2 HOF2
              dsimp only at HQ HO2 HOF2
              have hpq : p ≤ q := HPQ.out
              clear h46 HTR hnb
              cases b with
              | true =>
                dsimp only at HQ
                have hn1 : q + 1 ≤ n := HOF2.out.1
                have hn2 : n ≤ l.length := HOF2.out.2.1
                obtain ⟨va, vc, rfl⟩ := HS.out.1.2.form
                obtain ⟨c0, c1, c2, c3, c4, c5, c6, c7, c8, c9, c10, c11⟩ := cells12 HS.out.2.1
                go_wp2_with fail
                refine (HSD.out _ HS.out.1.1).mono ?_
                rintro e w' ⟨rfl, rfl⟩
                go_wp2_with fail
                refine (HO2.out _ HS.out.1.1).mono ?_
                rintro e w' ⟨rfl, rfl⟩
                go_wp2_with (at_builtin; go_loud (refine wpList_append_rows eltRTri _ rfl (.tmp 92) (.tmp 100) rfl w1.heap.size wr.heap.size _ _ acc [⟨X0, X1, X2⟩] rfl rfl (HS.out.1.2.below ((Below.refl _ _).alloc (Nat.le_refl _) (.cells #[.int .i64 (kindV X0), .string (text0 X0), .string (text1 X0), .string (text2 X0), .int .i64 (kindV X1), .string (text0 X1), .string (text1 X1), .string (text2 X1), .int .i64 (kindV X2), .string (text0 X2), .string (text1 X2), .string (text2 X2)] 29))) (show RTriRow (wr.alloc (.cells #[.int .i64 (kindV X0), .string (text0 X0), .string (text1 X0), .string (text2 X0), .int .i64 (kindV X1), .string (text0 X1), .string (text1 X1), .string (text2 X1), .int .i64 (kindV X2), .string (text0 X2), .string (text1 X2), .string (text2 X2)] 29)) wr.heap.size (.slice (some ⟨wr.heap.size, 0, none⟩) 1 1) [⟨X0, X1, X2⟩] from RowOf.new rtriC_len wr [_] (by simp)) (by have := hai.out; have := HLB.out; simp; omega) (by have := HS.out.1.1.size; simp; omega) ?_; intro V8 w8 r8 q8 at8))
                have HS8 := Lib.hid ((HS.out.1.below ((Below.refl _ _).alloc (Nat.le_refl _) (.cells #[.int .i64 (kindV X0), .string (text0 X0), .string (text1 X0), .string (text2 X0), .int .i64 (kindV X1), .string (text0 X1), .string (text1 X1), .string (text2 X1), .int .i64 (kindV X2), .string (text0 X2), .string (text1 X2), .string (text2 X2)] 29))).grow r8 q8)
                go_roundg f
                case measure => omega
                case rel => exact ⟨n, acc ++ [⟨X0, X1, X2⟩], rfl, hn2, by omega, Lib.hid (by have := hai.out; simp; omega), HQ, HS8⟩
              | false =>
                dsimp only at HQ
                go_wp2_with fail
                refine (HSD.out _ HS.out.1.1).mono ?_
                rintro e w' ⟨rfl, rfl⟩
                go_wp2_with fail
                refine (HO2.out _ HS.out.1.1).mono ?_
                rintro e w' ⟨rfl, rfl⟩
                go_wp2_with fail
                refine bodyPost_ret (v := .tuple #[.slice none 0 0, .int .i64 n, .int .i64 1]) (by simp [results, Tryz.results11, go_sem]) rfl ?_
                rw [← HQ.out]
                exact ⟨_, rfl, RowOf.nil _ _, HB1.out.trans (HS.out.1.1.mono HB1.out.size)⟩
            · rw [decide_eq_false h46] at HSD
              rw [if_neg h46] at HTR
              rw [HTR.out] at HQ
              dsimp only at HQ
              clear h46 HTR
              go_wp2_with fail
              refine (HSD.out _ HS.out.1.1).mono ?_
              rintro e w' ⟨rfl, rfl⟩
              go_wp2_with fail
              refine bodyPost_ret (v := .tuple #[.slice none 0 0, .int .i64 q, .int .i64 1]) (by simp [results, Tryz.results11, go_sem]) rfl ?_
              rw [← HQ.out]
              exact ⟨_, rfl, RowOf.nil _ _, HB1.out.trans (HS.out.1.1.mono HB1.out.size)⟩
    · have HQ : Hid ((acc, 0, 0) = R) := Lib.hid (by rw [← hQ.out, parse_end (by omega)])
      have t0 : decide ((i : Int) < (l.length : Int)) = false := decide_eq_false (by omega)
      obtain ⟨va, vc, rfl⟩ := HS.out.2.form
      clear hQ
      go_wp2_with fail
      refine bodyPost_ret (v := .tuple #[.slice va acc.length vc, .int .i64 0, .int .i64 0]) (by simp [results, Tryz.results11, go_sem]) rfl ?_
      rw [← HQ.out]
      exact ⟨_, rfl, HS.out.2.base HB1.out.size, HB1.out.trans (HS.out.1.mono HB1.out.size)⟩
end Go.Proofs.YtbchkhjkajagfaaGreatDoor
