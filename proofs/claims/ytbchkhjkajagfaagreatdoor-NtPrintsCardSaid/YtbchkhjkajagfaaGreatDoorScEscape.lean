/- What stands behind a backslash: its plain form, and the contracts of Scanner.number and Scanner.escaped. -/
import Derived.Test.YtbchkhjkajagfaaGreatDoorPkD
import Derived.Deep.LoopGhost
namespace Go.Proofs.YtbchkhjkajagfaaGreatDoor
open Go Go.RowKit
set_option maxRecDepth 100000
set_option linter.unusedVariables false
/-- the sign that a letter behind a backslash stands for -/
def escOf (c : Int) : Option Int := if c = 116 then some 9 else if c = 110 then some 10 else if c = 114 then some 13 else if c = 98 then some 8 else if c = 102 then some 12 else if c = 34 then some 34 else if c = 92 then some 92 else if c = 39 then some 39 else none
/-- digits from a place on: a sign and the place behind it, or where it ends -/
def numV (l : List Int) : Nat → Nat → Int → Option Int × Nat
  | 0, i, s => if SignP s then (some s, i) else (none, i - 1)
  | k + 1, i, s => if h : i < l.length then (if hexV (l[i]'h) < 0 then (none, i) else numV l k (i + 1) (s * 16 + hexV (l[i]'h))) else (none, i)
def escV (l : List Int) (i : Nat) : Option Int × Nat :=
  if h : i < l.length then
    match escOf (l[i]'h) with
    | some x => (some x, i + 1)
    | none => if l[i]'h = 117 then numV l 4 (i + 1) 0 else if l[i]'h = 85 then numV l 8 (i + 1) 0 else (none, i)
  else (none, i)
theorem hexV_lt (n : Int) : -1 ≤ hexV n ∧ hexV n ≤ 15 := by unfold hexV; (repeat' split) <;> omega
theorem valid_any (n : Int) (w : World) (n0 : -2147483648 ≤ n) (n1 : n ≤ 2147483647) : Calls Tryz.prog 71 #[.int .i32 n] w fun e w' => e = .returned (.bool (decide (SignP n))) ∧ w = w' := by
  by_cases h : SignP n
  · have HD : Hid (decide (SignP n) = true) := Lib.hid (decide_eq_true h)
    unfold SignP at h
    rw [HD.out]
    clear HD
    go_enter Tryz.func71, Tryz.ntmps71
    rcases h with h | h
    all_goals
      go_wp2_with fail
      go_ret
      exact ⟨rfl, rfl⟩
  · have HD : Hid (decide (SignP n) = false) := Lib.hid (decide_eq_false h)
    unfold SignP at h
    rw [HD.out]
    clear HD
    go_enter Tryz.func71, Tryz.ntmps71
    rcases (by omega : n < 0 ∨ (55296 ≤ n ∧ n ≤ 57343) ∨ 1114111 < n) with h | h | h
    all_goals
      go_wp2_with fail
      go_ret
      exact ⟨rfl, rfl⟩
theorem pow_small (k : Nat) (hk : k ≤ 8) : (16 : Int) ^ k ≤ 4294967296 := by
  rcases (by omega : k = 0 ∨ k = 1 ∨ k = 2 ∨ k = 3 ∨ k = 4 ∨ k = 5 ∨ k = 6 ∨ k = 7 ∨ k = 8) with rfl | rfl | rfl | rfl | rfl | rfl | rfl | rfl | rfl
  all_goals decide
def EscRes (l : List Int) (X g cap : Nat) (w : World) (r : Option Int × Nat) (e : Ending) (w' : World) : Prop :=
  e = .returned (.tuple #[.int .i32 (r.1.getD 0), .bool r.1.isSome]) ∧ ScW l r.2 X g cap w' ∧ SK X w w'
theorem numV_le (l : List Int) : ∀ (k i : Nat) (s : Int), i ≤ l.length → (numV l k i s).2 ≤ l.length := by
  intro k
  induction k with
  | zero => intro i s h; unfold numV; split <;> simp <;> omega
  | succ k ih =>
    intro i s h
    unfold numV
    split
    · split
      · exact h
      · exact ih _ _ (by omega)
    · exact h
set_option maxHeartbeats 6400000 in
theorem number_any (l : List Int) (i X g cap D : Nat) (w : World) (h : ScW l i X g cap w) (hl : ∀ n ∈ l, SignP n) (hb : l.length ≤ 1000000) (hD : D ≤ 8) (hi : 1 ≤ i) :
    Calls Tryz.prog 86 #[.pointer (some ⟨X, 0, none⟩), .int .i64 D] w (EscRes l X g cap w (numV l D i 0)) := by
  have HS := Lib.hid h
  have HL := Lib.hid hl
  obtain ⟨R, hR⟩ : ∃ R, R = numV l D i 0 := ⟨_, rfl⟩
  have HR := Lib.hid hR.symm
  rw [← hR]
  clear h hl hR
  go_enter Tryz.func86, Tryz.ntmps86
  go_wp2_with fail
  go_loopg [6, 9] D (fun gn s6 s9 wr => ∃ (k q : Nat) (S : Int), k + gn = D ∧ 1 ≤ q ∧ s6 = .int .i64 S ∧ s9 = .int .i64 k ∧ 0 ≤ S ∧ Hid (S < (16 : Int) ^ k) ∧ Hid (numV l gn q S = R) ∧ Hid (ScW l q X g cap wr) ∧ Hid (SK X w wr))
  case atStart => exact ⟨0, i, 0, by omega, hi, rfl, rfl, by omega, Lib.hid (by simp), HR, HS, Lib.hid (SK.refl _ _)⟩
  case round =>
    obtain ⟨k, q, S, hk, hq, rfl, rfl, hS0, hSP, hN, hS, hK⟩ := hrel
    clear HS HR
    have hS1 : S < 4294967296 := by have := hSP.out; have := pow_small k (by omega); omega
    by_cases hkD : k < D
    · obtain ⟨gn, rfl⟩ : ∃ gn, gk = gn + 1 := ⟨gk - 1, by omega⟩
      by_cases hlt : q < l.length
      · have hsn := HL.out _ (List.getElem_mem hlt)
        have hn0 : -2147483648 ≤ l[q] ∧ l[q] ≤ 2147483647 := by unfold SignP at hsn; omega
        clear hsn
        have hN2 := hN.out
        unfold numV at hN2
        rw [dif_pos hlt] at hN2
        have HN2 := Lib.hid hN2
        clear hN2 hN
        have HPK := Lib.hid (peek_yes l q X g cap _ hS.out hlt (by omega))
        obtain ⟨m, hm⟩ : ∃ m, m = l[q] := ⟨_, rfl⟩
        rw [← hm] at HPK HN2 hn0
        clear hm
        obtain ⟨m0, m1⟩ := hn0
        go_wp2_with fail
        refine HPK.out.mono ?_
        rintro e w2 ⟨rfl, hb1⟩
        have hX1 := hS.out.lt
        replace hK := Lib.hid (hK.out.trans (SK.below hb1 (by omega)))
        replace hS := Lib.hid (hS.out.keep hb1)
        clear hb1 HPK
        go_wp2_with fail
        refine (hex_any m _ m0 m1).mono ?_
        rintro e w' ⟨rfl, rfl⟩
        obtain ⟨v, hv⟩ : ∃ v, v = hexV m := ⟨_, rfl⟩
        have hv1 := hexV_lt m
        rw [← hv] at HN2 hv1 ⊢
        obtain ⟨v0, v1⟩ := hv1
        clear hv
        by_cases hneg : v < 0
        · rw [if_pos hneg] at HN2
          go_wp2_with fail
          go_ret2
          rw [← HN2.out]
          exact ⟨rfl, hS.out, hK.out⟩
        · rw [if_neg hneg] at HN2
          obtain ⟨d0, d1, f1⟩ := hS.out.cells
          clear d0
          have HSP2 : Hid (S * 16 + v < (16 : Int) ^ (k + 1)) := Lib.hid (by
            have := hSP.out
            rw [Int.pow_succ]
            generalize (16 : Int) ^ k = P at this ⊢
            omega)
          clear hSP
          go_wp2_with fail
          have e1 : ((q : Int) + 1) = ((q + 1 : Nat) : Int) := by omega
          rw [e1]
          have hS2 := Lib.hid (hS.out.put (q + 1) (by omega))
          have hK2 := Lib.hid (hK.out.trans (SK.set (X := X) _ 1 (.int .i64 ((q + 1 : Nat) : Int))))
          go_roundg gn
          case measure => omega
          case rel => exact ⟨k + 1, q + 1, S * 16 + v, by omega, by omega, rfl, by go_num, by omega, HSP2, HN2, hS2, hK2⟩
      · have hqe : q = l.length := by have := hS.out.2.2.2.2.1; omega
        have hN2 := hN.out
        unfold numV at hN2
        rw [dif_neg hlt] at hN2
        have HN2 := Lib.hid hN2
        clear hN2 hN
        go_wp2_with fail
        refine (peek_no l q X g cap _ hS.out hqe).mono ?_
        rintro e w2 ⟨rfl, hb1⟩
        have hX1 := hS.out.lt
        replace hK := Lib.hid (hK.out.trans (SK.below hb1 (by omega)))
        replace hS := Lib.hid (hS.out.keep hb1)
        clear hb1
        go_wp2_with fail
        refine (hex_any (-1) _ (by decide) (by decide)).mono ?_
        rintro e w' ⟨rfl, rfl⟩
        rw [show hexV (-1) = -1 from by decide]
        go_wp2_with fail
        go_ret2
        rw [← HN2.out]
        exact ⟨rfl, hS.out, hK.out⟩
    · obtain rfl : gk = 0 := by omega
      have hN2 := hN.out
      unfold numV at hN2
      have HN2 := Lib.hid hN2
      clear hN2 hN hSP
      obtain ⟨d0, d1, f1⟩ := hS.out.cells
      clear d0
      have e1 : ((q : Int) - 1) = ((q - 1 : Nat) : Int) := by omega
      have hS2 := Lib.hid (hS.out.put (q - 1) (by have := hS.out.2.2.2.2.1; omega))
      have hK2 := Lib.hid (hK.out.trans (SK.set (X := X) _ 1 (.int .i64 ((q - 1 : Nat) : Int))))
      have hql : q ≤ 1000000 := by have := hS.out.2.2.2.2.1; omega
      by_cases hbig : 1114111 < S
      · rw [if_neg (show ¬ SignP S by unfold SignP; omega)] at HN2
        go_wp2_with fail
        go_ret2
        rw [← HN2.out]
        exact ⟨rfl, hS2.out, hK2.out⟩
      · by_cases hsg : SignP S
        · rw [if_pos hsg] at HN2
          have HV : Hid (decide (SignP S) = true) := Lib.hid (decide_eq_true hsg)
          clear hsg
          go_wp2_with fail
          refine (valid_any S _ (by omega) (by omega)).mono ?_
          rintro e w' ⟨rfl, rfl⟩
          rw [HV.out]
          go_wp2_with fail
          go_ret2
          rw [← HN2.out]
          exact ⟨rfl, hS.out, hK.out⟩
        · rw [if_neg hsg] at HN2
          have HV : Hid (decide (SignP S) = false) := Lib.hid (decide_eq_false hsg)
          clear hsg
          go_wp2_with fail
          refine (valid_any S _ (by omega) (by omega)).mono ?_
          rintro e w' ⟨rfl, rfl⟩
          rw [HV.out]
          go_wp2_with fail
          go_ret2
          rw [← HN2.out]
          exact ⟨rfl, hS2.out, hK2.out⟩
def peekV (l : List Int) (i : Nat) : Int := if h : i < l.length then l[i]'h else -1
theorem peek_any (l : List Int) (p X g cap : Nat) (w : World) (h : ScW l p X g cap w) (hb : l.length ≤ 1000000) : Calls Tryz.prog 56 #[.pointer (some ⟨X, 0, none⟩)] w fun e w' => e = .returned (.int .i32 (peekV l p)) ∧ Below w.heap.size w w' := by
  unfold peekV
  by_cases hp : p < l.length
  · rw [dif_pos hp]; exact peek_yes l p X g cap w h hp (by omega)
  · rw [dif_neg hp]; exact peek_no l p X g cap w h (by have := h.2.2.2.2.1; omega)
theorem peek_in {l : List Int} {i : Nat} (hl : ∀ n ∈ l, SignP n) : -1 ≤ peekV l i ∧ peekV l i ≤ 1114111 ∧ (0 ≤ peekV l i → i < l.length) := by
  unfold peekV
  split
  · have := hl _ (List.getElem_mem (by assumption)); unfold SignP at this; omega
  · omega
theorem escV_eq (l : List Int) (i : Nat) : escV l i = match escOf (peekV l i) with
    | some x => (some x, i + 1)
    | none => if peekV l i = 117 then numV l 4 (i + 1) 0 else if peekV l i = 85 then numV l 8 (i + 1) 0 else (none, i) := by
  unfold escV peekV
  by_cases h : i < l.length
  · rw [dif_pos h, dif_pos h]
  · rw [dif_neg h, dif_neg h]; rfl
theorem escOf_hit {j : Nat} (hj : j < 8) : escOf (escL j) = some (escS j) ∧ 0 ≤ escL j := by
  rcases (by omega : j = 0 ∨ j = 1 ∨ j = 2 ∨ j = 3 ∨ j = 4 ∨ j = 5 ∨ j = 6 ∨ j = 7) with rfl | rfl | rfl | rfl | rfl | rfl | rfl | rfl
  all_goals decide
theorem escOf_miss {n : Int} (h : ∀ j, j < 8 → escL j ≠ n) : escOf n = none := by
  have h0 := h 0 (by omega)
  have h1 := h 1 (by omega)
  have h2 := h 2 (by omega)
  have h3 := h 3 (by omega)
  have h4 := h 4 (by omega)
  have h5 := h 5 (by omega)
  have h6 := h 6 (by omega)
  have h7 := h 7 (by omega)
  simp only [escL, escT] at h0 h1 h2 h3 h4 h5 h6 h7
  simp at h0 h1 h2 h3 h4 h5 h6 h7
  unfold escOf
  rw [if_neg (by omega), if_neg (by omega), if_neg (by omega), if_neg (by omega), if_neg (by omega), if_neg (by omega), if_neg (by omega), if_neg (by omega)]
theorem Esc.sk {w w' : World} {X : Nat} (h : Esc w) (hb : SK X w w') (hX : 0 < X) : Esc w' := fun j hj => (cell_same (hb.2 0 h.lt (by omega))).trans (h j hj)
theorem ScW.more {l : List Int} {i X g cap : Nat} {w wy : World} (h : ScW l i X g cap wy) (hk : SK X w wy) (o : Obj) : ScW l i X g cap (wy.alloc o) ∧ SK X w (wy.alloc o) := by
  have hb := (Below.refl wy.heap.size wy).alloc (Nat.le_refl _) o
  exact ⟨h.keep hb, hk.trans (SK.below hb (Nat.le_of_lt h.lt))⟩
set_option maxHeartbeats 6400000 in
set_option maxRecDepth 100000 in
theorem escaped_any (l : List Int) (i X g cap : Nat) (w : World) (h : ScW l i X g cap w) (he : Esc w) (hX0 : 0 < X) (hl : ∀ n ∈ l, SignP n) (hb : l.length ≤ 1000000) :
    Calls Tryz.prog 83 #[.pointer (some ⟨X, 0, none⟩)] w (EscRes l X g cap w (escV l i)) := by
  have HS := Lib.hid h
  have HL := Lib.hid hl
  have HPK := Lib.hid (peek_any l i X g cap w h hb)
  have hm := (escV_eq l i).symm
  obtain ⟨r0, r1, r2⟩ := peek_in (i := i) hl
  generalize escV l i = R at hm ⊢
  generalize peekV l i = r at hm HPK r0 r1 r2
  have HR := Lib.hid hm
  have HE := Lib.hid he
  clear h hl he hm
  go_enter Tryz.func83, Tryz.ntmps83
  go_wp2_with fail
  refine HPK.out.mono ?_
  rintro e w1 ⟨rfl, hb1⟩
  have hX1 := HS.out.lt
  have hK0 := Lib.hid (SK.below hb1 (Nat.le_of_lt hX1))
  replace HS := Lib.hid (HS.out.keep hb1)
  replace HE := Lib.hid (HE.out.sk hK0.out hX0)
  clear hb1 HPK hX1
  have z0 : w1.cell? ⟨0, 0, none⟩ = some (.int .i32 116) := HE.out 0 (by omega)
  have z1 : w1.cell? ⟨0, 1, none⟩ = some (.int .i32 9) := HE.out 1 (by omega)
  have z2 : w1.cell? ⟨0, 2, none⟩ = some (.int .i32 110) := HE.out 2 (by omega)
  have z3 : w1.cell? ⟨0, 3, none⟩ = some (.int .i32 10) := HE.out 3 (by omega)
  have z4 : w1.cell? ⟨0, 4, none⟩ = some (.int .i32 114) := HE.out 4 (by omega)
  have z5 : w1.cell? ⟨0, 5, none⟩ = some (.int .i32 13) := HE.out 5 (by omega)
  have z6 : w1.cell? ⟨0, 6, none⟩ = some (.int .i32 98) := HE.out 6 (by omega)
  have z7 : w1.cell? ⟨0, 7, none⟩ = some (.int .i32 8) := HE.out 7 (by omega)
  have z8 : w1.cell? ⟨0, 8, none⟩ = some (.int .i32 102) := HE.out 8 (by omega)
  have z9 : w1.cell? ⟨0, 9, none⟩ = some (.int .i32 12) := HE.out 9 (by omega)
  have z10 : w1.cell? ⟨0, 10, none⟩ = some (.int .i32 34) := HE.out 10 (by omega)
  have z11 : w1.cell? ⟨0, 11, none⟩ = some (.int .i32 34) := HE.out 11 (by omega)
  have z12 : w1.cell? ⟨0, 12, none⟩ = some (.int .i32 92) := HE.out 12 (by omega)
  have z13 : w1.cell? ⟨0, 13, none⟩ = some (.int .i32 92) := HE.out 13 (by omega)
  have z14 : w1.cell? ⟨0, 14, none⟩ = some (.int .i32 39) := HE.out 14 (by omega)
  have z15 : w1.cell? ⟨0, 15, none⟩ = some (.int .i32 39) := HE.out 15 (by omega)
  go_wp2_with fail
  clear z0 z1 z2 z3 z4 z5 z6 z7 z8 z9 z10 z11 z12 z13 z14 z15
  go_loopg [10] 8 (fun g2 s10 wy => ∃ j : Nat, j + g2 = 8 ∧ s10 = .int .i64 j ∧ Hid (∀ i', i' < j → escL i' ≠ r) ∧ Hid (ScW l i X g cap wy) ∧ Hid (SK X w wy))
  case atStart => exact ⟨0, by omega, rfl, Lib.hid (fun i hi => by omega), HS, hK0⟩
  case round =>
    obtain ⟨j, hj, rfl, HM, hS, hK⟩ := hrel
    clear HS hK0
    rcases (by omega : j = 0 ∨ j = 1 ∨ j = 2 ∨ j = 3 ∨ j = 4 ∨ j = 5 ∨ j = 6 ∨ j = 7 ∨ j = 8) with rfl | rfl | rfl | rfl | rfl | rfl | rfl | rfl | rfl
    · have hX1 := hS.out.lt
      obtain ⟨d0, d1, f1⟩ := hS.out.cells
      clear d0
      have hix : ∀ w : World, (Instr.index 118 (.agg #[.int .i32 116, .int .i32 9, .int .i32 110, .int .i32 10, .int .i32 114, .int .i32 13, .int .i32 98, .int .i32 8, .int .i32 102, .int .i32 12, .int .i32 34, .int .i32 34, .int .i32 92, .int .i32 92, .int .i32 39, .int .i32 39]) (.int .i64 0)).run Tryz.prog w = .ok (.agg #[.int .i32 116, .int .i32 9]) w := fun w => by kernel_rfl
      have hS2 := Lib.hid (hS.out.more hK.out (.cells #[.int .i32 116, .int .i32 9] 117))
      by_cases hr : r = 116
      · subst hr
        have HN : Hid ((some 9, i + 1) = R) := Lib.hid HR.out
        have hil : i < l.length := r2 (by decide)
        have hi6 : i ≤ 1000000 := by omega
        clear r0 r1 r2 HM HR
        go_wp2_with fail
        have e1 : ((i : Int) + 1) = ((i + 1 : Nat) : Int) := by omega
        go_ret2
        rw [e1, ← HN.out]
        have hM := ScW.more (hS.out.put (i + 1) (by omega)) (hK.out.trans (SK.set _ _ _)) (.cells #[.int .i32 116, .int .i32 9] 117)
        exact ⟨rfl, hM.1, hM.2⟩
      · have ht : ((116 : Int) == r) = false := beq_eq_false_iff_ne.mpr (fun h => hr h.symm)
        have hne : ¬ (116 : Int) = r := fun h => hr h.symm
        have HM2 : Hid (∀ i', i' < 1 → escL i' ≠ r) := Lib.hid (fun i' hi => by
          by_cases h2 : i' < 0
          · exact HM.out i' h2
          · obtain rfl : i' = 0 := by omega
            exact hne)
        clear hr HM r2
        go_wp2_with fail
        go_roundg (gk - 1)
        case measure => omega
        case rel => exact ⟨1, by omega, rfl, HM2, Lib.hid hS2.out.1, Lib.hid hS2.out.2⟩
    · have hX1 := hS.out.lt
      obtain ⟨d0, d1, f1⟩ := hS.out.cells
      clear d0
      have hix : ∀ w : World, (Instr.index 118 (.agg #[.int .i32 116, .int .i32 9, .int .i32 110, .int .i32 10, .int .i32 114, .int .i32 13, .int .i32 98, .int .i32 8, .int .i32 102, .int .i32 12, .int .i32 34, .int .i32 34, .int .i32 92, .int .i32 92, .int .i32 39, .int .i32 39]) (.int .i64 1)).run Tryz.prog w = .ok (.agg #[.int .i32 110, .int .i32 10]) w := fun w => by kernel_rfl
      have hS2 := Lib.hid (hS.out.more hK.out (.cells #[.int .i32 110, .int .i32 10] 117))
      by_cases hr : r = 110
      · subst hr
        have HN : Hid ((some 10, i + 1) = R) := Lib.hid HR.out
        have hil : i < l.length := r2 (by decide)
        have hi6 : i ≤ 1000000 := by omega
        clear r0 r1 r2 HM HR
        go_wp2_with fail
        have e1 : ((i : Int) + 1) = ((i + 1 : Nat) : Int) := by omega
        go_ret2
        rw [e1, ← HN.out]
        have hM := ScW.more (hS.out.put (i + 1) (by omega)) (hK.out.trans (SK.set _ _ _)) (.cells #[.int .i32 110, .int .i32 10] 117)
        exact ⟨rfl, hM.1, hM.2⟩
      · have ht : ((110 : Int) == r) = false := beq_eq_false_iff_ne.mpr (fun h => hr h.symm)
        have hne : ¬ (110 : Int) = r := fun h => hr h.symm
        have HM2 : Hid (∀ i', i' < 2 → escL i' ≠ r) := Lib.hid (fun i' hi => by
          by_cases h2 : i' < 1
          · exact HM.out i' h2
          · obtain rfl : i' = 1 := by omega
            exact hne)
        clear hr HM r2
        go_wp2_with fail
        go_roundg (gk - 1)
        case measure => omega
        case rel => exact ⟨2, by omega, rfl, HM2, Lib.hid hS2.out.1, Lib.hid hS2.out.2⟩
    · have hX1 := hS.out.lt
      obtain ⟨d0, d1, f1⟩ := hS.out.cells
      clear d0
      have hix : ∀ w : World, (Instr.index 118 (.agg #[.int .i32 116, .int .i32 9, .int .i32 110, .int .i32 10, .int .i32 114, .int .i32 13, .int .i32 98, .int .i32 8, .int .i32 102, .int .i32 12, .int .i32 34, .int .i32 34, .int .i32 92, .int .i32 92, .int .i32 39, .int .i32 39]) (.int .i64 2)).run Tryz.prog w = .ok (.agg #[.int .i32 114, .int .i32 13]) w := fun w => by kernel_rfl
      have hS2 := Lib.hid (hS.out.more hK.out (.cells #[.int .i32 114, .int .i32 13] 117))
      by_cases hr : r = 114
      · subst hr
        have HN : Hid ((some 13, i + 1) = R) := Lib.hid HR.out
        have hil : i < l.length := r2 (by decide)
        have hi6 : i ≤ 1000000 := by omega
        clear r0 r1 r2 HM HR
        go_wp2_with fail
        have e1 : ((i : Int) + 1) = ((i + 1 : Nat) : Int) := by omega
        go_ret2
        rw [e1, ← HN.out]
        have hM := ScW.more (hS.out.put (i + 1) (by omega)) (hK.out.trans (SK.set _ _ _)) (.cells #[.int .i32 114, .int .i32 13] 117)
        exact ⟨rfl, hM.1, hM.2⟩
      · have ht : ((114 : Int) == r) = false := beq_eq_false_iff_ne.mpr (fun h => hr h.symm)
        have hne : ¬ (114 : Int) = r := fun h => hr h.symm
        have HM2 : Hid (∀ i', i' < 3 → escL i' ≠ r) := Lib.hid (fun i' hi => by
          by_cases h2 : i' < 2
          · exact HM.out i' h2
          · obtain rfl : i' = 2 := by omega
            exact hne)
        clear hr HM r2
        go_wp2_with fail
        go_roundg (gk - 1)
        case measure => omega
        case rel => exact ⟨3, by omega, rfl, HM2, Lib.hid hS2.out.1, Lib.hid hS2.out.2⟩
    · have hX1 := hS.out.lt
      obtain ⟨d0, d1, f1⟩ := hS.out.cells
      clear d0
      have hix : ∀ w : World, (Instr.index 118 (.agg #[.int .i32 116, .int .i32 9, .int .i32 110, .int .i32 10, .int .i32 114, .int .i32 13, .int .i32 98, .int .i32 8, .int .i32 102, .int .i32 12, .int .i32 34, .int .i32 34, .int .i32 92, .int .i32 92, .int .i32 39, .int .i32 39]) (.int .i64 3)).run Tryz.prog w = .ok (.agg #[.int .i32 98, .int .i32 8]) w := fun w => by kernel_rfl
      have hS2 := Lib.hid (hS.out.more hK.out (.cells #[.int .i32 98, .int .i32 8] 117))
      by_cases hr : r = 98
      · subst hr
        have HN : Hid ((some 8, i + 1) = R) := Lib.hid HR.out
        have hil : i < l.length := r2 (by decide)
        have hi6 : i ≤ 1000000 := by omega
        clear r0 r1 r2 HM HR
        go_wp2_with fail
        have e1 : ((i : Int) + 1) = ((i + 1 : Nat) : Int) := by omega
        go_ret2
        rw [e1, ← HN.out]
        have hM := ScW.more (hS.out.put (i + 1) (by omega)) (hK.out.trans (SK.set _ _ _)) (.cells #[.int .i32 98, .int .i32 8] 117)
        exact ⟨rfl, hM.1, hM.2⟩
      · have ht : ((98 : Int) == r) = false := beq_eq_false_iff_ne.mpr (fun h => hr h.symm)
        have hne : ¬ (98 : Int) = r := fun h => hr h.symm
        have HM2 : Hid (∀ i', i' < 4 → escL i' ≠ r) := Lib.hid (fun i' hi => by
          by_cases h2 : i' < 3
          · exact HM.out i' h2
          · obtain rfl : i' = 3 := by omega
            exact hne)
        clear hr HM r2
        go_wp2_with fail
        go_roundg (gk - 1)
        case measure => omega
        case rel => exact ⟨4, by omega, rfl, HM2, Lib.hid hS2.out.1, Lib.hid hS2.out.2⟩
    · have hX1 := hS.out.lt
      obtain ⟨d0, d1, f1⟩ := hS.out.cells
      clear d0
      have hix : ∀ w : World, (Instr.index 118 (.agg #[.int .i32 116, .int .i32 9, .int .i32 110, .int .i32 10, .int .i32 114, .int .i32 13, .int .i32 98, .int .i32 8, .int .i32 102, .int .i32 12, .int .i32 34, .int .i32 34, .int .i32 92, .int .i32 92, .int .i32 39, .int .i32 39]) (.int .i64 4)).run Tryz.prog w = .ok (.agg #[.int .i32 102, .int .i32 12]) w := fun w => by kernel_rfl
      have hS2 := Lib.hid (hS.out.more hK.out (.cells #[.int .i32 102, .int .i32 12] 117))
      by_cases hr : r = 102
      · subst hr
        have HN : Hid ((some 12, i + 1) = R) := Lib.hid HR.out
        have hil : i < l.length := r2 (by decide)
        have hi6 : i ≤ 1000000 := by omega
        clear r0 r1 r2 HM HR
        go_wp2_with fail
        have e1 : ((i : Int) + 1) = ((i + 1 : Nat) : Int) := by omega
        go_ret2
        rw [e1, ← HN.out]
        have hM := ScW.more (hS.out.put (i + 1) (by omega)) (hK.out.trans (SK.set _ _ _)) (.cells #[.int .i32 102, .int .i32 12] 117)
        exact ⟨rfl, hM.1, hM.2⟩
      · have ht : ((102 : Int) == r) = false := beq_eq_false_iff_ne.mpr (fun h => hr h.symm)
        have hne : ¬ (102 : Int) = r := fun h => hr h.symm
        have HM2 : Hid (∀ i', i' < 5 → escL i' ≠ r) := Lib.hid (fun i' hi => by
          by_cases h2 : i' < 4
          · exact HM.out i' h2
          · obtain rfl : i' = 4 := by omega
            exact hne)
        clear hr HM r2
        go_wp2_with fail
        go_roundg (gk - 1)
        case measure => omega
        case rel => exact ⟨5, by omega, rfl, HM2, Lib.hid hS2.out.1, Lib.hid hS2.out.2⟩
    · have hX1 := hS.out.lt
      obtain ⟨d0, d1, f1⟩ := hS.out.cells
      clear d0
      have hix : ∀ w : World, (Instr.index 118 (.agg #[.int .i32 116, .int .i32 9, .int .i32 110, .int .i32 10, .int .i32 114, .int .i32 13, .int .i32 98, .int .i32 8, .int .i32 102, .int .i32 12, .int .i32 34, .int .i32 34, .int .i32 92, .int .i32 92, .int .i32 39, .int .i32 39]) (.int .i64 5)).run Tryz.prog w = .ok (.agg #[.int .i32 34, .int .i32 34]) w := fun w => by kernel_rfl
      have hS2 := Lib.hid (hS.out.more hK.out (.cells #[.int .i32 34, .int .i32 34] 117))
      by_cases hr : r = 34
      · subst hr
        have HN : Hid ((some 34, i + 1) = R) := Lib.hid HR.out
        have hil : i < l.length := r2 (by decide)
        have hi6 : i ≤ 1000000 := by omega
        clear r0 r1 r2 HM HR
        go_wp2_with fail
        have e1 : ((i : Int) + 1) = ((i + 1 : Nat) : Int) := by omega
        go_ret2
        rw [e1, ← HN.out]
        have hM := ScW.more (hS.out.put (i + 1) (by omega)) (hK.out.trans (SK.set _ _ _)) (.cells #[.int .i32 34, .int .i32 34] 117)
        exact ⟨rfl, hM.1, hM.2⟩
      · have ht : ((34 : Int) == r) = false := beq_eq_false_iff_ne.mpr (fun h => hr h.symm)
        have hne : ¬ (34 : Int) = r := fun h => hr h.symm
        have HM2 : Hid (∀ i', i' < 6 → escL i' ≠ r) := Lib.hid (fun i' hi => by
          by_cases h2 : i' < 5
          · exact HM.out i' h2
          · obtain rfl : i' = 5 := by omega
            exact hne)
        clear hr HM r2
        go_wp2_with fail
        go_roundg (gk - 1)
        case measure => omega
        case rel => exact ⟨6, by omega, rfl, HM2, Lib.hid hS2.out.1, Lib.hid hS2.out.2⟩
    · have hX1 := hS.out.lt
      obtain ⟨d0, d1, f1⟩ := hS.out.cells
      clear d0
      have hix : ∀ w : World, (Instr.index 118 (.agg #[.int .i32 116, .int .i32 9, .int .i32 110, .int .i32 10, .int .i32 114, .int .i32 13, .int .i32 98, .int .i32 8, .int .i32 102, .int .i32 12, .int .i32 34, .int .i32 34, .int .i32 92, .int .i32 92, .int .i32 39, .int .i32 39]) (.int .i64 6)).run Tryz.prog w = .ok (.agg #[.int .i32 92, .int .i32 92]) w := fun w => by kernel_rfl
      have hS2 := Lib.hid (hS.out.more hK.out (.cells #[.int .i32 92, .int .i32 92] 117))
      by_cases hr : r = 92
      · subst hr
        have HN : Hid ((some 92, i + 1) = R) := Lib.hid HR.out
        have hil : i < l.length := r2 (by decide)
        have hi6 : i ≤ 1000000 := by omega
        clear r0 r1 r2 HM HR
        go_wp2_with fail
        have e1 : ((i : Int) + 1) = ((i + 1 : Nat) : Int) := by omega
        go_ret2
        rw [e1, ← HN.out]
        have hM := ScW.more (hS.out.put (i + 1) (by omega)) (hK.out.trans (SK.set _ _ _)) (.cells #[.int .i32 92, .int .i32 92] 117)
        exact ⟨rfl, hM.1, hM.2⟩
      · have ht : ((92 : Int) == r) = false := beq_eq_false_iff_ne.mpr (fun h => hr h.symm)
        have hne : ¬ (92 : Int) = r := fun h => hr h.symm
        have HM2 : Hid (∀ i', i' < 7 → escL i' ≠ r) := Lib.hid (fun i' hi => by
          by_cases h2 : i' < 6
          · exact HM.out i' h2
          · obtain rfl : i' = 6 := by omega
            exact hne)
        clear hr HM r2
        go_wp2_with fail
        go_roundg (gk - 1)
        case measure => omega
        case rel => exact ⟨7, by omega, rfl, HM2, Lib.hid hS2.out.1, Lib.hid hS2.out.2⟩
    · have hX1 := hS.out.lt
      obtain ⟨d0, d1, f1⟩ := hS.out.cells
      clear d0
      have hix : ∀ w : World, (Instr.index 118 (.agg #[.int .i32 116, .int .i32 9, .int .i32 110, .int .i32 10, .int .i32 114, .int .i32 13, .int .i32 98, .int .i32 8, .int .i32 102, .int .i32 12, .int .i32 34, .int .i32 34, .int .i32 92, .int .i32 92, .int .i32 39, .int .i32 39]) (.int .i64 7)).run Tryz.prog w = .ok (.agg #[.int .i32 39, .int .i32 39]) w := fun w => by kernel_rfl
      have hS2 := Lib.hid (hS.out.more hK.out (.cells #[.int .i32 39, .int .i32 39] 117))
      by_cases hr : r = 39
      · subst hr
        have HN : Hid ((some 39, i + 1) = R) := Lib.hid HR.out
        have hil : i < l.length := r2 (by decide)
        have hi6 : i ≤ 1000000 := by omega
        clear r0 r1 r2 HM HR
        go_wp2_with fail
        have e1 : ((i : Int) + 1) = ((i + 1 : Nat) : Int) := by omega
        go_ret2
        rw [e1, ← HN.out]
        have hM := ScW.more (hS.out.put (i + 1) (by omega)) (hK.out.trans (SK.set _ _ _)) (.cells #[.int .i32 39, .int .i32 39] 117)
        exact ⟨rfl, hM.1, hM.2⟩
      · have ht : ((39 : Int) == r) = false := beq_eq_false_iff_ne.mpr (fun h => hr h.symm)
        have hne : ¬ (39 : Int) = r := fun h => hr h.symm
        have HM2 : Hid (∀ i', i' < 8 → escL i' ≠ r) := Lib.hid (fun i' hi => by
          by_cases h2 : i' < 7
          · exact HM.out i' h2
          · obtain rfl : i' = 7 := by omega
            exact hne)
        clear hr HM r2
        go_wp2_with fail
        go_roundg (gk - 1)
        case measure => omega
        case rel => exact ⟨8, by omega, rfl, HM2, Lib.hid hS2.out.1, Lib.hid hS2.out.2⟩
    · have hm := HR.out
      rw [escOf_miss HM.out] at hm
      have HN : Hid ((if r = 117 then numV l 4 (i + 1) 0 else if r = 85 then numV l 8 (i + 1) 0 else (none, i)) = R) := Lib.hid hm
      clear hm HR HM
      have hX1 := hS.out.lt
      obtain ⟨d0, d1, f1⟩ := hS.out.cells
      clear d0
      by_cases h117 : r = 117
      · subst h117
        have hN2 : Hid (numV l 4 (i + 1) 0 = R) := Lib.hid HN.out
        have hil : i < l.length := r2 (by decide)
        have hi6 : i ≤ 1000000 := by omega
        clear r0 r1 r2 HN
        go_wp2_with fail
        have e1 : ((i : Int) + 1) = ((i + 1 : Nat) : Int) := by omega
        rw [e1]
        clear e1
        have hS2 := Lib.hid (hS.out.put (i + 1) (by omega))
        have hK2 := Lib.hid (hK.out.trans (SK.set (X := X) _ 1 (.int .i64 ((i + 1 : Nat) : Int))))
        refine (number_any l (i + 1) X g cap 4 _ hS2.out HL.out hb (by omega) (by omega)).mono ?_
        rw [hN2.out]
        rintro e w3 ⟨he3, hs3, hk3⟩
        obtain ⟨x3, hx3⟩ : ∃ x, x = R.1.getD 0 := ⟨_, rfl⟩
        obtain ⟨b3, hb3⟩ : ∃ b, b = R.1.isSome := ⟨_, rfl⟩
        rw [← hx3, ← hb3] at he3
        subst he3
        have HXB := Lib.hid (And.intro hx3 hb3)
        clear hx3 hb3
        have HS3 := Lib.hid hs3
        have HK3 := Lib.hid (hK2.out.trans hk3)
        clear hs3 hk3
        go_wp2_with fail
        go_ret2
        exact ⟨by rw [← HXB.out.1, ← HXB.out.2]; rfl, HS3.out, HK3.out⟩
      · by_cases h85 : r = 85
        · subst h85
          have hN2 : Hid (numV l 8 (i + 1) 0 = R) := Lib.hid HN.out
          have hil : i < l.length := r2 (by decide)
          have hi6 : i ≤ 1000000 := by omega
          clear r0 r1 r2 HN h117
          go_wp2_with fail
          have e1 : ((i : Int) + 1) = ((i + 1 : Nat) : Int) := by omega
          rw [e1]
          clear e1
          have hS2 := Lib.hid (hS.out.put (i + 1) (by omega))
          have hK2 := Lib.hid (hK.out.trans (SK.set (X := X) _ 1 (.int .i64 ((i + 1 : Nat) : Int))))
          refine (number_any l (i + 1) X g cap 8 _ hS2.out HL.out hb (by omega) (by omega)).mono ?_
          rw [hN2.out]
          rintro e w3 ⟨he3, hs3, hk3⟩
          obtain ⟨x3, hx3⟩ : ∃ x, x = R.1.getD 0 := ⟨_, rfl⟩
          obtain ⟨b3, hb3⟩ : ∃ b, b = R.1.isSome := ⟨_, rfl⟩
          rw [← hx3, ← hb3] at he3
          subst he3
          have HXB := Lib.hid (And.intro hx3 hb3)
          clear hx3 hb3
          have HS3 := Lib.hid hs3
          have HK3 := Lib.hid (hK2.out.trans hk3)
          clear hs3 hk3
          go_wp2_with fail
          go_ret2
          exact ⟨by rw [← HXB.out.1, ← HXB.out.2]; rfl, HS3.out, HK3.out⟩
        · have hN2 : Hid ((none, i) = R) := Lib.hid (by have := HN.out; rw [if_neg h117, if_neg h85] at this; exact this)
          have ht1 : (r == (117 : Int)) = false := beq_eq_false_iff_ne.mpr h117
          have ht2 : (r == (85 : Int)) = false := beq_eq_false_iff_ne.mpr h85
          clear HN h117 h85 r2
          go_wp2_with fail
          go_ret2
          rw [← hN2.out]
          exact ⟨rfl, hS.out, hK.out⟩
end Go.Proofs.YtbchkhjkajagfaaGreatDoor
