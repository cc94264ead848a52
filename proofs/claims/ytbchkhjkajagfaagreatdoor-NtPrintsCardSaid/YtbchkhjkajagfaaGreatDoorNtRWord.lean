/- Contracts over this seat's program: the document's Stands, Word. -/
import Derived.Test.YtbchkhjkajagfaaGreatDoorPkF
import Derived.Test.YtbchkhjkajagfaaGreatDoorScRQuoted
namespace Go.Proofs.YtbchkhjkajagfaaGreatDoor
open Go Go.RowKit
set_option linter.unusedVariables false
set_option linter.unusedSimpArgs false
set_option maxRecDepth 100000
theorem RSgAt.cls {l : List Int} {a : Option Addr} {c X : Nat} {w : World} (h : SgAt l a c X w) : ClsAt l a l.length X w := by
  rcases h with ⟨rfl, _, _⟩ | ⟨g, rfl, hR, hc, hg⟩
  · exact ⟨rfl, .inl rfl⟩
  · refine ⟨rfl, .inr ⟨g, 0, rfl, by omega, hR.2, fun j hj => ?_⟩⟩
    rw [Nat.zero_add, hR.1 j hj, List.getD_eq_getElem?_getD, List.getElem?_eq_getElem hj]
    rfl
theorem SgRow.rcls {l : List Int} {a : Option Addr} {c : Nat} {w : World} (h : SgRow l a c w) : ClsAt l a l.length w.heap.size w :=
  RSgAt.cls (SgAt.of h (Below.refl _ _) (Nat.le_refl _))
theorem SgRow.at_ {l : List Int} {a : Option Addr} {c : Nat} {w : World} (h : SgRow l a c w) {i : Nat} (hi : i < l.length) : ∃ g, a = some ⟨g, 0, none⟩ ∧ w.cell? ⟨g, i, none⟩ = some (.int .i64 (pk l i)) := by
  rcases h with ⟨rfl, _, _⟩ | ⟨g, rfl, hR, hc⟩
  · simp at hi
  · exact ⟨g, rfl, by rw [hR.1 i hi, pk_yes hi]⟩
theorem own_rcls {w : World} {B X n : Nat} {L : List Int} {a : Option Addr} {c : Nat} (h : w.ownsRow B 3 1 (.slice a n c) n (intsV L)) (hn : n = L.length) (hX : X < B) : ClsAt L a n X w := by
  subst hn
  refine ⟨rfl, ?_⟩
  rcases h.2 with ⟨h1, h2⟩ | ⟨g, cap, cur, h1, hb, hg, rest⟩
  · exact .inl h2
  · injection h1 with h1 _ _
    subst h1
    refine .inr ⟨g, 0, rfl, by omega, (Array.getElem?_eq_some_iff.1 hg).1, fun j hj => ?_⟩
    rw [Nat.zero_add, h.cellAt j (by omega)]
    unfold intsV
    rw [List.getElem?_map, List.getD_eq_getElem?_getD, List.getElem?_eq_getElem hj]
    rfl
set_option maxHeartbeats 1600000 in
theorem stands_any {l : List Int} {a : Option Addr} {cs : Nat} {w : World} (i : Nat) (c : Int) (hc : 0 ≤ c ∧ c ≤ 255) (h : SgRow l a cs w) (hl : ∀ n ∈ l, SignP n) (hb : l.length ≤ 1000000) (hi : i ≤ 2000000) :
    Calls Tryz.prog 28 #[.slice a l.length cs, .int .i64 i, .int .u8 c] w fun e w' => e = .returned (.bool (decide (pk l i = c))) ∧ w = w' := by
  obtain ⟨hc0, hc1⟩ := hc
  by_cases hil : i < l.length
  · obtain ⟨g, rfl, hx⟩ := h.at_ hil
    have hp := pk_ge hl i
    obtain ⟨x, hxx⟩ : ∃ x, x = pk l i := ⟨_, rfl⟩
    rw [← hxx] at hx hp ⊢
    have t1 : (i : Int) < (l.length : Int) := by omega
    clear h hl hxx
    go_enter Tryz.func28, Tryz.ntmps28
    go_wp2_with fail
    go_ret
    exact ⟨by simp [Bool.beq_eq_decide_eq], rfl⟩
  · rw [pk_no (by omega), decide_eq_false (by omega)]
    have t1 : ¬ (i : Int) < (l.length : Int) := by omega
    clear h hl
    go_enter Tryz.func28, Tryz.ntmps28
    go_wp2_with fail
    go_ret
    exact ⟨rfl, rfl⟩
theorem slice_int (g n cap p q : Nat) (hpq : p ≤ q) (hq : q ≤ cap) (w : World) :
    (Instr.slice 32 (.slice (some ⟨g, 0, none⟩) n cap) (some (.int .i64 p)) (some (.int .i64 q)) none).run Tryz.prog w = .ok (.slice (some (partA g cap p)) (q - p) (cap - p)) w := by
  rw [← partA_some]
  go_simp
theorem slice_none (w : World) : (Instr.slice 32 (.slice none 0 0) (some (.int .i64 0)) (some (.int .i64 0)) none).run Tryz.prog w = .ok (.slice none 0 0) w := by go_simp
/-- a part of the row of signs -/
theorem part_cls {l : List Int} {g cs : Nat} {w : World} (h : SgRow l (some ⟨g, 0, none⟩) cs w) (p n : Nat) (hn : p + n ≤ l.length) : ClsAt ((l.drop p).take n) (some (partA g cs p)) n w.heap.size w := by
  refine ⟨by rw [List.length_take, List.length_drop]; omega, ?_⟩
  rcases Nat.eq_zero_or_pos n with h0 | h0
  · exact .inl h0
  · rcases h with ⟨rfl, h1, _⟩ | ⟨g', h1, hR, hc⟩
    · cases h1
    · injection h1 with h1
      injection h1 with h1 _ _
      subst h1
      have hpc : cs ≠ p := by omega
      refine .inr ⟨g, p, by unfold partA; rw [if_neg hpc], by have := hR.2; omega, hR.2, fun j hj => ?_⟩
      rw [List.length_take, List.length_drop] at hj
      rw [hR.1 (p + j) (by omega), List.getD_eq_getElem?_getD, List.getElem?_take_of_lt (by omega), List.getElem?_drop, List.getElem?_eq_getElem (by omega)]
      rfl
/-- the document's Text of a part of the signs -/
theorem part_any {l : List Int} {a : Option Addr} {cs : Nat} {w : World} (h : SgRow l a cs w) (hl : ∀ n ∈ l, SignP n) (hb : l.length ≤ 1000000) (p n : Nat) (hn : p + n ≤ l.length) :
    ∃ b c, (∀ w', (Instr.slice 32 (.slice a l.length cs) (some (.int .i64 p)) (some (.int .i64 ((p + n : Nat) : Int))) none).run Tryz.prog w' = .ok (.slice b n c) w') ∧
      Calls Tryz.prog 53 #[.slice b n c] w fun e w' => e = .returned (.string (tBytes ((l.drop p).take n))) ∧ Below w.heap.size w w' := by
  have hs : ∀ x ∈ (l.drop p).take n, SignP x := fun x hx => hl x (List.mem_of_mem_drop (List.mem_of_mem_take hx))
  rcases h with ⟨rfl, rfl, rfl⟩ | ⟨g, rfl, hR, hc⟩
  · simp only [List.length_nil] at hn
    obtain rfl : p = 0 := by omega
    obtain rfl : n = 0 := by omega
    exact ⟨none, 0, fun w' => slice_none w', text_any [] none 0 0 w.heap.size w ⟨rfl, .inl rfl⟩ (fun x hx => by cases hx) (by omega)⟩
  · refine ⟨some (partA g cs p), cs - p, fun w' => ?_, ?_⟩
    · have := slice_int g l.length cs p (p + n) (by omega) (by omega) w'
      rw [Nat.add_sub_cancel_left] at this
      exact this
    · exact text_any _ _ n (cs - p) w.heap.size w (part_cls (.inr ⟨g, rfl, hR, hc⟩) p n hn) hs (by omega)
set_option maxHeartbeats 6400000 in
theorem rword_any {l : List Int} {a : Option Addr} {cs : Nat} {w : World} (i : Nat) (u : Bool) (h : SgRow l a cs w) (hl : ∀ n ∈ l, SignP n) (hb : l.length ≤ 1000000) (hi : i ≤ l.length) :
    Calls Tryz.prog 51 #[.slice a l.length cs, .int .i64 i, .bool u] w fun e w' => e = .returned (.tuple #[.string (tBytes (wordT l i u).1), .int .i64 (wordT l i u).2]) ∧ Below w.heap.size w w' := by
  have HC := Lib.hid (fun q (hq : q < l.length) => h.at_ hq)
  have HIN := Lib.hid (fun q (h1 : i ≤ q) (h2 : q < i + twN (wordC u) l i) => twk_in h1 h2)
  have HOUT := Lib.hid (twk_out (C := wordC u) (by cases u <;> decide) l i)
  have hN := twk_le (C := wordC u) hi
  have HPK := Lib.hid (fun q => pk_ge hl q)
  have HPT := Lib.hid (part_any h hl hb i (twN (wordC u) l i) hN)
  have hw1 : (wordT l i u).1 = (l.drop i).take (twN (wordC u) l i) := by
    unfold wordT twN
    exact List.prefix_iff_eq_take.1 (List.takeWhile_prefix _)
  have hw2 : (wordT l i u).2 = i + twN (wordC u) l i := rfl
  rw [hw1, hw2]
  obtain ⟨N, hNN⟩ : ∃ N, N = twN (wordC u) l i := ⟨_, rfl⟩
  rw [← hNN] at HIN HOUT hN HPT ⊢
  clear hw1 hw2 hNN h hl
  obtain ⟨r, hr⟩ : ∃ r, r = i + N := ⟨_, rfl⟩
  have HNR := Lib.hid hr
  rw [← hr] at HIN HOUT hN HPT ⊢
  clear hr
  cases u with
  | true =>
    go_enter Tryz.func51, Tryz.ntmps51
    go_wp2_with fail
    go_loopw [8] (fun v wr => ∃ q : Nat, i ≤ q ∧ q ≤ r ∧ v = .int .i64 q ∧ wr = w) (fun v _ => r - (intOf v).toNat)
    case atStart => exact ⟨i, by omega, by have := HNR.out; omega, rfl, rfl⟩
    case round =>
      obtain ⟨q, hiq, hqr, rfl, rfl⟩ := hrel
      by_cases hin : q < r
      · have hql : q < l.length := by omega
        have hC := HIN.out q hiq hin
        obtain ⟨g, rfl, hx⟩ := HC.out q hql
        obtain ⟨x0, x1⟩ := HPK.out q
        obtain ⟨x, hxx⟩ : ∃ x, x = pk l q := ⟨_, rfl⟩
        rw [← hxx] at hx hC x0 x1
        have t0 : (q : Int) < (l.length : Int) := by omega
        have HK := Lib.hid (fun w => rclass_any x w (by omega) (by omega))
        clear hxx
        unfold wordC at hC
        obtain ⟨k, hk⟩ : ∃ k, k = classV x := ⟨_, rfl⟩
        rw [← hk] at HK hC
        clear hk
        by_cases k1 : k = 1
        · subst k1
          clear hC
          go_wp2_with fail
          refine (HK.out _).mono ?_
          rintro e w' ⟨rfl, rfl⟩
          go_wp2_with fail
          exact ⟨⟨q + 1, by omega, by omega, by push_cast; rfl, trivial⟩, by simp only [intOf]; omega⟩
        · have t1 : (k == 1) = false := by simpa using k1
          by_cases k2 : k = 2
          · subst k2
            clear hC k1
            go_wp2_with fail
            refine (HK.out _).mono ?_
            rintro e w' ⟨rfl, rfl⟩
            go_wp2_with fail
            refine (HK.out _).mono ?_
            rintro e w' ⟨rfl, rfl⟩
            go_wp2_with fail
            exact ⟨⟨q + 1, by omega, by omega, by push_cast; rfl, trivial⟩, by simp only [intOf]; omega⟩
          · have t2 : (k == 2) = false := by simpa using k2
            rw [decide_eq_false k1, decide_eq_false k2] at hC
            by_cases h45 : x = 45
            · subst h45
              clear hC k1 k2
              go_wp2_with fail
              refine (HK.out _).mono ?_
              rintro e w' ⟨rfl, rfl⟩
              go_wp2_with fail
              refine (HK.out _).mono ?_
              rintro e w' ⟨rfl, rfl⟩
              go_wp2_with fail
              exact ⟨⟨q + 1, by omega, by omega, by push_cast; rfl, trivial⟩, by simp only [intOf]; omega⟩
            · have t45 : (x == 45) = false := by simpa using h45
              rw [decide_eq_false h45] at hC
              simp only [Bool.false_or, Bool.and_eq_true, decide_eq_true_eq] at hC
              obtain ⟨-, rfl⟩ := hC
              clear k1 k2 h45
              go_wp2_with fail
              refine (HK.out _).mono ?_
              rintro e w' ⟨rfl, rfl⟩
              go_wp2_with fail
              refine (HK.out _).mono ?_
              rintro e w' ⟨rfl, rfl⟩
              go_wp2_with fail
              exact ⟨⟨q + 1, by omega, by omega, by push_cast; rfl, trivial⟩, by simp only [intOf]; omega⟩
      · obtain rfl : q = r := by omega
        obtain ⟨bp, cp, hsl, HT⟩ := HPT.out
        by_cases hql : q < l.length
        · have hC := HOUT.out
          obtain ⟨g, rfl, hx⟩ := HC.out _ hql
          obtain ⟨x0, x1⟩ := HPK.out q
          obtain ⟨x, hxx⟩ : ∃ x, x = pk l q := ⟨_, rfl⟩
          rw [← hxx] at hx hC x0 x1
          have t0 : (q : Int) < (l.length : Int) := by omega
          have HK := Lib.hid (fun w => rclass_any x w (by omega) (by omega))
          clear hxx
          unfold wordC at hC
          obtain ⟨k, hk⟩ : ∃ k, k = classV x := ⟨_, rfl⟩
          rw [← hk] at HK hC
          clear hk
          simp only [Bool.or_eq_false_iff, decide_eq_false_iff_not] at hC
          obtain ⟨k1, k2, h45, hu⟩ := hC
          have t1 : (k == 1) = false := by simpa using k1
          have t2 : (k == 2) = false := by simpa using k2
          have t45 : (x == 45) = false := by simpa using h45
          have t95 : (x == 95) = false := by simpa using hu
          clear k1 k2 h45 hu
          go_wp2_with fail
          refine (HK.out _).mono ?_
          rintro e w' ⟨rfl, rfl⟩
          go_wp2_with fail
          refine (HK.out _).mono ?_
          rintro e w' ⟨rfl, rfl⟩
          go_wp2_with fail
          refine HT.mono ?_
          rintro e w1 ⟨rfl, hb1⟩
          go_wp2_with fail
          refine bodyPost_ret (v := .tuple #[.string (tBytes ((l.drop i).take N)), .int .i64 (q : Int)]) (by simp [results, Tryz.results51, go_sem]) rfl ?_
          exact ⟨rfl, hb1⟩
        · have t0 : decide ((q : Int) < (l.length : Int)) = false := decide_eq_false (by omega)
          go_wp2_with fail
          refine HT.mono ?_
          rintro e w1 ⟨rfl, hb1⟩
          go_wp2_with fail
          refine bodyPost_ret (v := .tuple #[.string (tBytes ((l.drop i).take N)), .int .i64 (q : Int)]) (by simp [results, Tryz.results51, go_sem]) rfl ?_
          exact ⟨rfl, hb1⟩
  | false =>
    go_enter Tryz.func51, Tryz.ntmps51
    go_wp2_with fail
    go_loopw [8] (fun v wr => ∃ q : Nat, i ≤ q ∧ q ≤ r ∧ v = .int .i64 q ∧ wr = w) (fun v _ => r - (intOf v).toNat)
    case atStart => exact ⟨i, by omega, by have := HNR.out; omega, rfl, rfl⟩
    case round =>
      obtain ⟨q, hiq, hqr, rfl, rfl⟩ := hrel
      by_cases hin : q < r
      · have hql : q < l.length := by omega
        have hC := HIN.out q hiq hin
        obtain ⟨g, rfl, hx⟩ := HC.out q hql
        obtain ⟨x0, x1⟩ := HPK.out q
        obtain ⟨x, hxx⟩ : ∃ x, x = pk l q := ⟨_, rfl⟩
        rw [← hxx] at hx hC x0 x1
        have t0 : (q : Int) < (l.length : Int) := by omega
        have HK := Lib.hid (fun w => rclass_any x w (by omega) (by omega))
        clear hxx
        unfold wordC at hC
        obtain ⟨k, hk⟩ : ∃ k, k = classV x := ⟨_, rfl⟩
        rw [← hk] at HK hC
        clear hk
        by_cases k1 : k = 1
        · subst k1
          clear hC
          go_wp2_with fail
          refine (HK.out _).mono ?_
          rintro e w' ⟨rfl, rfl⟩
          go_wp2_with fail
          exact ⟨⟨q + 1, by omega, by omega, by push_cast; rfl, trivial⟩, by simp only [intOf]; omega⟩
        · have t1 : (k == 1) = false := by simpa using k1
          by_cases k2 : k = 2
          · subst k2
            clear hC k1
            go_wp2_with fail
            refine (HK.out _).mono ?_
            rintro e w' ⟨rfl, rfl⟩
            go_wp2_with fail
            refine (HK.out _).mono ?_
            rintro e w' ⟨rfl, rfl⟩
            go_wp2_with fail
            exact ⟨⟨q + 1, by omega, by omega, by push_cast; rfl, trivial⟩, by simp only [intOf]; omega⟩
          · have t2 : (k == 2) = false := by simpa using k2
            rw [decide_eq_false k1, decide_eq_false k2] at hC
            by_cases h45 : x = 45
            · subst h45
              clear hC k1 k2
              go_wp2_with fail
              refine (HK.out _).mono ?_
              rintro e w' ⟨rfl, rfl⟩
              go_wp2_with fail
              refine (HK.out _).mono ?_
              rintro e w' ⟨rfl, rfl⟩
              go_wp2_with fail
              exact ⟨⟨q + 1, by omega, by omega, by push_cast; rfl, trivial⟩, by simp only [intOf]; omega⟩
            · have t45 : (x == 45) = false := by simpa using h45
              rw [decide_eq_false h45] at hC
              exact absurd hC (by simp)
      · obtain rfl : q = r := by omega
        obtain ⟨bp, cp, hsl, HT⟩ := HPT.out
        by_cases hql : q < l.length
        · have hC := HOUT.out
          obtain ⟨g, rfl, hx⟩ := HC.out _ hql
          obtain ⟨x0, x1⟩ := HPK.out q
          obtain ⟨x, hxx⟩ : ∃ x, x = pk l q := ⟨_, rfl⟩
          rw [← hxx] at hx hC x0 x1
          have t0 : (q : Int) < (l.length : Int) := by omega
          have HK := Lib.hid (fun w => rclass_any x w (by omega) (by omega))
          clear hxx
          unfold wordC at hC
          obtain ⟨k, hk⟩ : ∃ k, k = classV x := ⟨_, rfl⟩
          rw [← hk] at HK hC
          clear hk
          simp only [Bool.or_eq_false_iff, decide_eq_false_iff_not] at hC
          obtain ⟨k1, k2, h45, hu⟩ := hC
          have t1 : (k == 1) = false := by simpa using k1
          have t2 : (k == 2) = false := by simpa using k2
          have t45 : (x == 45) = false := by simpa using h45
          clear k1 k2 h45 hu
          go_wp2_with fail
          refine (HK.out _).mono ?_
          rintro e w' ⟨rfl, rfl⟩
          go_wp2_with fail
          refine (HK.out _).mono ?_
          rintro e w' ⟨rfl, rfl⟩
          go_wp2_with fail
          refine HT.mono ?_
          rintro e w1 ⟨rfl, hb1⟩
          go_wp2_with fail
          refine bodyPost_ret (v := .tuple #[.string (tBytes ((l.drop i).take N)), .int .i64 (q : Int)]) (by simp [results, Tryz.results51, go_sem]) rfl ?_
          exact ⟨rfl, hb1⟩
        · have t0 : decide ((q : Int) < (l.length : Int)) = false := decide_eq_false (by omega)
          go_wp2_with fail
          refine HT.mono ?_
          rintro e w1 ⟨rfl, hb1⟩
          go_wp2_with fail
          refine bodyPost_ret (v := .tuple #[.string (tBytes ((l.drop i).take N)), .int .i64 (q : Int)]) (by simp [results, Tryz.results51, go_sem]) rfl ?_
          exact ⟨rfl, hb1⟩
end Go.Proofs.YtbchkhjkajagfaaGreatDoor
