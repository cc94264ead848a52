/- Contract over this seat's program: the document's IRI. -/
import Derived.Test.YtbchkhjkajagfaaGreatDoorNtRWord
import Derived.Test.YtbchkhjkajagfaaGreatDoorNtMore
namespace Go.Proofs.YtbchkhjkajagfaaGreatDoor
open Go Go.RowKit
set_option linter.unusedVariables false
set_option linter.unusedSimpArgs false
set_option maxRecDepth 100000
theorem riri_eq (l : List Int) (f i : Nat) (acc : List Int) : iriGo l (f + 1) i acc =
    if pk l i = -1 ∨ pk l i = 10 then (none, i)
    else if pk l i = 62 then (some acc, i + 1)
    else if pk l i = 92 then
      (if pk l (i + 1) = 117 then (match numV l 4 (i + 2) 0 with | (some x, j) => iriGo l f j (acc ++ [x]) | (none, j) => (none, j))
       else if pk l (i + 1) = 85 then (match numV l 8 (i + 2) 0 with | (some x, j) => iriGo l f j (acc ++ [x]) | (none, j) => (none, j))
       else (none, i + 1))
    else iriGo l f (i + 1) (acc ++ [pk l i]) := rfl
theorem npow_small (k : Nat) (h : k ≤ 8) : (16 : Int) ^ k ≤ 4294967296 := by
  rcases (by omega : k = 0 ∨ k = 1 ∨ k = 2 ∨ k = 3 ∨ k = 4 ∨ k = 5 ∨ k = 6 ∨ k = 7 ∨ k = 8) with rfl | rfl | rfl | rfl | rfl | rfl | rfl | rfl | rfl <;> decide
set_option maxHeartbeats 12800000 in
theorem riri4_any {l : List Int} {a : Option Addr} {cs : Nat} {w : World} (p : Nat) (h : SgRow l a cs w) (hl : ∀ n ∈ l, SignP n) (hb : l.length ≤ 100000) (hp : p ≤ l.length) :
    Calls Tryz.prog 50 #[.slice a l.length cs, .int .i64 p] w fun e w' => e = .returned (.tuple #[.string (tBytes ((iriT l p).1.getD [])), .int .i64 (iriT l p).2, .bool (iriT l p).1.isSome]) ∧ Below w.heap.size w w' := by
  obtain ⟨i0, hi, hz0, hz1, hz2⟩ := info_parts infoI
  have HL := Lib.hid hl
  have HW0 : Hid (p < l.length → 0 < w.heap.size) := Lib.hid (fun hp => by obtain ⟨g, _, hx⟩ := h.at_ hp; exact Nat.lt_of_le_of_lt (Nat.zero_le g) (block_lt_of_cell hx))
  have HCC := Lib.hid (fun (wr : World) (hw : Below w.heap.size w wr) q (hq : q < l.length) => (h.below hw).at_ hq)
  have HPK := Lib.hid (fun q => pk_ge hl q)
  have HST := Lib.hid (fun (wr : World) (hw : Below w.heap.size w wr) (i : Nat) (c : Int) (hc : 0 ≤ c ∧ c ≤ 255) (hi : i ≤ 2000000) => stands_any i c hc (h.below hw) hl (by omega : l.length ≤ 1000000) hi)
  obtain ⟨R, hR⟩ : ∃ R, R = iriT l p := ⟨_, rfl⟩
  rw [← hR]
  have HR := Lib.hid hR
  have hS0 := HST.out w (Below.refl _ _) p 60 (by omega) (by omega)
  clear hR h hl
  by_cases h60 : pk l p = 60
  · rw [decide_eq_true h60] at hS0
    have HS0 := Lib.hid hS0
    have HR2 : Hid (iriGo l (l.length - p) (p + 1) [] = R) := Lib.hid (by rw [HR.out]; unfold iriT; rw [if_pos h60])
    have hpl : p < l.length := pk_lt h60 (by decide)
    clear hS0 HR h60
    go_enter Tryz.func50, Tryz.ntmps50
    go_wp2_with fail
    refine HS0.out.mono ?_
    rintro e w' ⟨rfl, rfl⟩
    clear HS0
    go_wp2_with fail
    go_loopg [7, 8] (l.length - p) (fun gn s7 s8 wr => ∃ (i : Nat) (acc : List Int) (a : Option Addr) (c : Nat), s7 = .slice a acc.length c ∧ s8 = .int .i64 i ∧ acc.length ≤ i ∧ i ≤ l.length ∧ l.length ≤ gn + i ∧ Hid (Signs acc) ∧ Hid (iriGo l gn i acc = R) ∧ Hid (wr.ownsRow w.heap.size 3 1 (.slice a acc.length c) acc.length (intsV acc)) ∧ Hid (Below w.heap.size w wr))
    case atStart => exact ⟨p + 1, [], none, 0, rfl, by go_num, by simp, by omega, by omega, Lib.hid Signs.nil, HR2, Lib.hid (World.ownsRow_nil _ _ _ _), Lib.hid (Below.refl _ _)⟩
    case round =>
      obtain ⟨i, acc, aa, ca, rfl, rfl, hai, hil, hgi, HA, hQ, hO, hB⟩ := hrel
      clear HR2
      have HW := hB
      have HSE := Lib.hid (HST.out wr hB.out i 62 (by omega) (by omega))
      by_cases hlt : i < l.length
      · obtain ⟨f, rfl⟩ : ∃ f, gk = f + 1 := ⟨gk - 1, by omega⟩
        have hq2 := hQ.out
        rw [riri_eq] at hq2
        obtain ⟨g, rfl, hci⟩ := HCC.out wr hB.out i hlt
        obtain ⟨m0, m1⟩ := HPK.out i
        have hsg : SignP (pk l i) := by rw [pk_yes hlt]; exact HL.out _ (List.getElem_mem hlt)
        have HSU := Lib.hid (fun (wr : World) (hw : Below w.heap.size w wr) => HST.out wr hw (i + 1) 117 (by omega) (by omega))
        have HSV := Lib.hid (fun (wr : World) (hw : Below w.heap.size w wr) => HST.out wr hw (i + 1) 85 (by omega) (by omega))
        obtain ⟨z, hz⟩ : ∃ z, z = pk l (i + 1) := ⟨_, rfl⟩
        obtain ⟨m, hm⟩ : ∃ m, m = pk l i := ⟨_, rfl⟩
        rw [← hm, ← hz] at hq2
        rw [← hm] at hci m0 m1 hsg HSE
        rw [← hz] at HSU HSV
        have hm1 : m ≠ -1 := fun e => by rw [e] at hsg; exact absurd hsg (by decide)
        have HQ := Lib.hid hq2
        have HSG := Lib.hid hsg
        have t0 : (i : Int) < (l.length : Int) := by omega
        have HZ := Lib.hid hz
        clear hq2 hQ hm hz hsg
        by_cases h10 : m = 10
        · subst h10
          have HR2 : Hid ((none, i) = R) := Lib.hid (by have := HQ.out; rw [if_pos (.inr rfl)] at this; exact this)
          clear HQ HSU HSV
          rw [decide_eq_false (by decide)] at HSE
          go_wp2_with fail
          refine HSE.out.mono ?_
          rintro e w' ⟨rfl, rfl⟩
          go_wp2_with fail
          refine bodyPost_ret (v := .tuple #[.string ⟨#[]⟩, .int .i64 i, .bool false]) (by simp [results, Tryz.results50, go_sem]) rfl ?_
          rw [← HR2.out]
          exact ⟨rfl, hB.out⟩
        · rw [if_neg (by omega)] at HQ
          have t10 : (m != 10) = true := by simpa using h10
          by_cases h62 : m = 62
          · subst h62
            have HR2 : Hid ((some acc, i + 1) = R) := Lib.hid (by have := HQ.out; rw [if_pos rfl] at this; exact this)
            have HT := Lib.hid (text_any acc aa acc.length ca 0 wr (own_rcls hO.out rfl (HW0.out hpl)) HA.out (by omega))
            clear HQ HSU HSV h10 t10 hm1
            rw [decide_eq_true rfl] at HSE
            go_wp2_with fail
            refine HSE.out.mono ?_
            rintro e w' ⟨rfl, rfl⟩
            go_wp2_with fail
            refine HT.out.mono ?_
            rintro e w5 ⟨rfl, hb5⟩
            go_wp2_with fail
            refine bodyPost_ret (v := .tuple #[.string (tBytes acc), .int .i64 ((i : Int) + 1), .bool true]) (by simp [results, Tryz.results50, go_sem]) rfl ?_
            rw [← HR2.out]
            exact ⟨by simp, hB.out.trans (hb5.mono hB.out.size)⟩
          · rw [if_neg h62] at HQ
            have t62 : (m != 62) = true := by simpa using h62
            by_cases h92 : m = 92
            · subst h92
              rw [if_pos rfl] at HQ
              clear h10 h62 t10 t62 hm1 HSE
              by_cases h117 : z = 117
              · subst h117
                rw [if_pos rfl] at HQ
                rw [decide_eq_true rfl] at HSU
                rw [decide_eq_false (by decide)] at HSV
                have hl2 : i + 2 ≤ l.length := by have := pk_lt HZ.out.symm (by decide); omega
                have HN0 : Hid ((match numV l 4 (i + 2) 0 with | (some x, j) => iriGo l f j (acc ++ [x]) | (none, j) => (none, j)) = R) := HQ
                clear HQ
                obtain ⟨E, hE⟩ : ∃ E, E = numV l 4 (i + 2) 0 := ⟨_, rfl⟩
                rw [← hE] at HN0
                have HE0 : Hid (numV l 4 (i + 2) 0 = E) := Lib.hid hE.symm
                clear hE
                go_wp2_with fail
                refine (HSU.out _ HW.out).mono ?_
                rintro e w' ⟨rfl, rfl⟩
                go_wp2_with fail
                refine (HSV.out _ HW.out).mono ?_
                rintro e w' ⟨rfl, rfl⟩
                clear HSU HSV
                go_wp2_with fail
                go_loop [8, 10, 11] (fun s8 s10 s11 => ∃ (k q : Nat) (S : Int), k ≤ 4 ∧ q ≤ i + 2 + k ∧ i + 2 + k ≤ q ∧ q ≤ l.length ∧ s11 = .int .i64 k ∧ s8 = .int .i64 q ∧ s10 = .int .i64 S ∧ 0 ≤ S ∧ Hid (S < (16 : Int) ^ k) ∧ Hid (numV l (4 - k) q S = E)) (fun _ _ k => 4 - (intOf k).toNat)
                case atStart => exact ⟨0, i + 2, 0, by omega, by omega, by omega, by omega, rfl, by go_num, rfl, by omega, Lib.hid (by simp), HE0⟩
                case round =>
                  obtain ⟨k, q, S, hkD, hqe1, hqe2, hql, rfl, rfl, rfl, hS0, hSP, hN⟩ := hrel
                  clear HE0
                  have hS1 : S < 4294967296 := by have := hSP.out; have := npow_small k (by omega); omega
                  by_cases hk : k < 4
                  · obtain ⟨d, hd⟩ : ∃ d, 4 - k = d + 1 := ⟨4 - k - 1, by omega⟩
                    have hn2 := hN.out
                    rw [hd, num_pk] at hn2
                    clear hN
                    by_cases hq : q < l.length
                    · have HN2 := Lib.hid hn2
                      obtain ⟨g2, hg2, hcq⟩ := HCC.out wr HW.out q hq
                      injection hg2 with hg2
                      injection hg2 with hg2 _ _
                      subst hg2
                      obtain ⟨x0, x1⟩ := HPK.out q
                      clear hn2
                      obtain ⟨x, hxx⟩ : ∃ x, x = pk l q := ⟨_, rfl⟩
                      rw [← hxx] at HN2 hcq x0 x1
                      clear hxx
                      have t0 : ¬ (l.length : Int) ≤ (q : Int) := by omega
                      go_wp2_with fail
                      refine (rhex_any x _ (by omega) (by omega)).mono ?_
                      rintro e w' ⟨rfl, rfl⟩
                      obtain ⟨v, hv⟩ : ∃ v, v = hexV x := ⟨_, rfl⟩
                      have HV := Lib.hid hv
                      have hv1 := hexV_lt x
                      rw [← hv] at HN2 hv1 ⊢
                      obtain ⟨v0, v1⟩ := hv1
                      clear hv
                      by_cases hneg : v < 0
                      · have HR2 : Hid ((none, q) = R) := Lib.hid (by have h1 := HN2.out; rw [if_pos hneg] at h1; rw [← HN0.out, ← h1])
                        go_wp2_with fail
                        refine bodyPost_ret (v := .tuple #[.string ⟨#[]⟩, .int .i64 q, .bool false]) (by simp [results, Tryz.results50, go_sem]) rfl ?_
                        rw [← HR2.out]
                        exact ⟨rfl, hB.out⟩
                      · have HN3 : Hid (numV l (4 - (k + 1)) (q + 1) (S * 16 + v) = E) := Lib.hid (by
                          have h1 := HN2.out
                          rw [if_neg hneg] at h1
                          rw [show 4 - (k + 1) = d by omega]
                          exact h1)
                        have HSP2 : Hid (S * 16 + v < (16 : Int) ^ (k + 1)) := Lib.hid (by
                          have := hSP.out
                          rw [Int.pow_succ]
                          generalize (16 : Int) ^ k = P at this ⊢
                          omega)
                        clear hSP HN2 hd
                        go_wp2_with fail
                        refine (rhex_any x _ (by omega) (by omega)).mono ?_
                        rintro e w' ⟨rfl, rfl⟩
                        rw [← HV.out]
                        go_wp2_with fail
                        go_round
                        case rel => exact ⟨k + 1, q + 1, S * 16 + v, by omega, by omega, by omega, by omega, by go_num, by go_num, rfl, by omega, HSP2, HN3⟩
                        case measure => simp [intOf]; omega
                    · rw [pk_no (by omega), if_pos (by decide)] at hn2
                      have HR2 : Hid ((none, q) = R) := Lib.hid (by rw [← HN0.out, ← hn2])
                      have t0 : (l.length : Int) ≤ (q : Int) := by omega
                      clear hn2
                      go_wp2_with fail
                      refine bodyPost_ret (v := .tuple #[.string ⟨#[]⟩, .int .i64 q, .bool false]) (by simp [results, Tryz.results50, go_sem]) rfl ?_
                      rw [← HR2.out]
                      exact ⟨rfl, hB.out⟩
                  · obtain rfl : k = 4 := by omega
                    have hn2 := hN.out
                    rw [Nat.sub_self] at hn2
                    unfold numV at hn2
                    clear hN hSP hk hkD
                    by_cases hsg : SignP S
                    · rw [if_pos hsg] at hn2
                      have HR2 : Hid (iriGo l f q (acc ++ [S]) = R) := Lib.hid (by rw [← HN0.out, ← hn2])
                      have HSG := Lib.hid hsg
                      have HAS := Lib.hid (HA.out.snoc hsg)
                      clear hn2 hsg
                      go_wp2_with fail
                      refine (sign_yes S _ HSG.out).mono ?_
                      rintro e w' ⟨rfl, rfl⟩
                      have hsz := hB.out.size
                      go_wp2_with (at_builtin; refine wpList_append_own _ rfl (.tmp 98) (.tmp 100) 32 rfl w.heap.size 3 i0 (.int .i64 0) 1 8 Tryz.underlying32 hi hz0 hz1 hz2 rfl (by decide) _ _ _ rfl (hO.out.alloc _) ⟨wr.heap.size, 0, none⟩ 1 1 [.int .i64 S] rfl rfl (cell_one_new _ _ _) (by simp [Value.oneCell']) (by unfold maxLen; omega) (by omega) (by simp; omega) ?_; intro v' w4 oa ga _; obtain ⟨a', c', rfl⟩ := own_form oa; have hb4 : Below w.heap.size w w4 := (hB.out.alloc (by omega) _).grown ga (by simp; omega) (fun g hg => (hO.out.lt g hg).1); clear ga)
                      have HO4 : Hid (w4.ownsRow w.heap.size 3 1 (.slice a' (acc ++ [S]).length c') (acc ++ [S]).length (intsV (acc ++ [S]))) := Lib.hid (by rw [List.length_append, intsV_snoc]; exact oa)
                      have HB4 := Lib.hid hb4
                      clear oa hb4
                      go_wp2_with fail
                      go_roundg f
                      case measure => omega
                      case rel => exact ⟨q, acc ++ [S], a', c', by rw [List.length_append]; rfl, rfl, by rw [List.length_append]; simp; omega, by omega, by omega, HAS, HR2, HO4, HB4⟩
                    · rw [if_neg hsg] at hn2
                      have HR2 : Hid ((none, q - 1) = R) := Lib.hid (by rw [← HN0.out, ← hn2])
                      have HSG := Lib.hid hsg
                      have e1 : ((q : Int) - 1) = ((q - 1 : Nat) : Int) := by omega
                      clear hn2 hsg
                      go_wp2_with fail
                      refine (sign_no S _ HSG.out).mono ?_
                      rintro e w' ⟨rfl, rfl⟩
                      go_wp2_with fail
                      refine bodyPost_ret (v := .tuple #[.string ⟨#[]⟩, .int .i64 ((q - 1 : Nat) : Int), .bool false]) (by simp [results, Tryz.results50, go_sem, e1]) rfl ?_
                      rw [← HR2.out]
                      exact ⟨rfl, hB.out⟩
              · rw [if_neg h117] at HQ
                rw [decide_eq_false h117] at HSU
                by_cases h85 : z = 85
                · subst h85
                  rw [if_pos rfl] at HQ
                  rw [decide_eq_true rfl] at HSV
                  clear h117
                  have hl2 : i + 2 ≤ l.length := by have := pk_lt HZ.out.symm (by decide); omega
                  have HN0 : Hid ((match numV l 8 (i + 2) 0 with | (some x, j) => iriGo l f j (acc ++ [x]) | (none, j) => (none, j)) = R) := HQ
                  clear HQ
                  obtain ⟨E, hE⟩ : ∃ E, E = numV l 8 (i + 2) 0 := ⟨_, rfl⟩
                  rw [← hE] at HN0
                  have HE0 : Hid (numV l 8 (i + 2) 0 = E) := Lib.hid hE.symm
                  clear hE
                  go_wp2_with fail
                  refine (HSU.out _ HW.out).mono ?_
                  rintro e w' ⟨rfl, rfl⟩
                  go_wp2_with fail
                  refine (HSV.out _ HW.out).mono ?_
                  rintro e w' ⟨rfl, rfl⟩
                  clear HSU HSV
                  go_wp2_with fail
                  go_loop [8, 10, 11] (fun s8 s10 s11 => ∃ (k q : Nat) (S : Int), k ≤ 8 ∧ q ≤ i + 2 + k ∧ i + 2 + k ≤ q ∧ q ≤ l.length ∧ s11 = .int .i64 k ∧ s8 = .int .i64 q ∧ s10 = .int .i64 S ∧ 0 ≤ S ∧ Hid (S < (16 : Int) ^ k) ∧ Hid (numV l (8 - k) q S = E)) (fun _ _ k => 8 - (intOf k).toNat)
                  case atStart => exact ⟨0, i + 2, 0, by omega, by omega, by omega, by omega, rfl, by go_num, rfl, by omega, Lib.hid (by simp), HE0⟩
                  case round =>
                    obtain ⟨k, q, S, hkD, hqe1, hqe2, hql, rfl, rfl, rfl, hS0, hSP, hN⟩ := hrel
                    clear HE0
                    have hS1 : S < 4294967296 := by have := hSP.out; have := npow_small k (by omega); omega
                    by_cases hk : k < 8
                    · obtain ⟨d, hd⟩ : ∃ d, 8 - k = d + 1 := ⟨8 - k - 1, by omega⟩
                      have hn2 := hN.out
                      rw [hd, num_pk] at hn2
                      clear hN
                      by_cases hq : q < l.length
                      · have HN2 := Lib.hid hn2
                        obtain ⟨g2, hg2, hcq⟩ := HCC.out wr HW.out q hq
                        injection hg2 with hg2
                        injection hg2 with hg2 _ _
                        subst hg2
                        obtain ⟨x0, x1⟩ := HPK.out q
                        clear hn2
                        obtain ⟨x, hxx⟩ : ∃ x, x = pk l q := ⟨_, rfl⟩
                        rw [← hxx] at HN2 hcq x0 x1
                        clear hxx
                        have t0 : ¬ (l.length : Int) ≤ (q : Int) := by omega
                        go_wp2_with fail
                        refine (rhex_any x _ (by omega) (by omega)).mono ?_
                        rintro e w' ⟨rfl, rfl⟩
                        obtain ⟨v, hv⟩ : ∃ v, v = hexV x := ⟨_, rfl⟩
                        have HV := Lib.hid hv
                        have hv1 := hexV_lt x
                        rw [← hv] at HN2 hv1 ⊢
                        obtain ⟨v0, v1⟩ := hv1
                        clear hv
                        by_cases hneg : v < 0
                        · have HR2 : Hid ((none, q) = R) := Lib.hid (by have h1 := HN2.out; rw [if_pos hneg] at h1; rw [← HN0.out, ← h1])
                          go_wp2_with fail
                          refine bodyPost_ret (v := .tuple #[.string ⟨#[]⟩, .int .i64 q, .bool false]) (by simp [results, Tryz.results50, go_sem]) rfl ?_
                          rw [← HR2.out]
                          exact ⟨rfl, hB.out⟩
                        · have HN3 : Hid (numV l (8 - (k + 1)) (q + 1) (S * 16 + v) = E) := Lib.hid (by
                            have h1 := HN2.out
                            rw [if_neg hneg] at h1
                            rw [show 8 - (k + 1) = d by omega]
                            exact h1)
                          have HSP2 : Hid (S * 16 + v < (16 : Int) ^ (k + 1)) := Lib.hid (by
                            have := hSP.out
                            rw [Int.pow_succ]
                            generalize (16 : Int) ^ k = P at this ⊢
                            omega)
                          clear hSP HN2 hd
                          go_wp2_with fail
                          refine (rhex_any x _ (by omega) (by omega)).mono ?_
                          rintro e w' ⟨rfl, rfl⟩
                          rw [← HV.out]
                          go_wp2_with fail
                          go_round
                          case rel => exact ⟨k + 1, q + 1, S * 16 + v, by omega, by omega, by omega, by omega, by go_num, by go_num, rfl, by omega, HSP2, HN3⟩
                          case measure => simp [intOf]; omega
                      · rw [pk_no (by omega), if_pos (by decide)] at hn2
                        have HR2 : Hid ((none, q) = R) := Lib.hid (by rw [← HN0.out, ← hn2])
                        have t0 : (l.length : Int) ≤ (q : Int) := by omega
                        clear hn2
                        go_wp2_with fail
                        refine bodyPost_ret (v := .tuple #[.string ⟨#[]⟩, .int .i64 q, .bool false]) (by simp [results, Tryz.results50, go_sem]) rfl ?_
                        rw [← HR2.out]
                        exact ⟨rfl, hB.out⟩
                    · obtain rfl : k = 8 := by omega
                      have hn2 := hN.out
                      rw [Nat.sub_self] at hn2
                      unfold numV at hn2
                      clear hN hSP hk hkD
                      by_cases hsg : SignP S
                      · rw [if_pos hsg] at hn2
                        have HR2 : Hid (iriGo l f q (acc ++ [S]) = R) := Lib.hid (by rw [← HN0.out, ← hn2])
                        have HSG := Lib.hid hsg
                        have HAS := Lib.hid (HA.out.snoc hsg)
                        clear hn2 hsg
                        go_wp2_with fail
                        refine (sign_yes S _ HSG.out).mono ?_
                        rintro e w' ⟨rfl, rfl⟩
                        have hsz := hB.out.size
                        go_wp2_with (at_builtin; refine wpList_append_own _ rfl (.tmp 98) (.tmp 100) 32 rfl w.heap.size 3 i0 (.int .i64 0) 1 8 Tryz.underlying32 hi hz0 hz1 hz2 rfl (by decide) _ _ _ rfl (hO.out.alloc _) ⟨wr.heap.size, 0, none⟩ 1 1 [.int .i64 S] rfl rfl (cell_one_new _ _ _) (by simp [Value.oneCell']) (by unfold maxLen; omega) (by omega) (by simp; omega) ?_; intro v' w4 oa ga _; obtain ⟨a', c', rfl⟩ := own_form oa; have hb4 : Below w.heap.size w w4 := (hB.out.alloc (by omega) _).grown ga (by simp; omega) (fun g hg => (hO.out.lt g hg).1); clear ga)
                        have HO4 : Hid (w4.ownsRow w.heap.size 3 1 (.slice a' (acc ++ [S]).length c') (acc ++ [S]).length (intsV (acc ++ [S]))) := Lib.hid (by rw [List.length_append, intsV_snoc]; exact oa)
                        have HB4 := Lib.hid hb4
                        clear oa hb4
                        go_wp2_with fail
                        go_roundg f
                        case measure => omega
                        case rel => exact ⟨q, acc ++ [S], a', c', by rw [List.length_append]; rfl, rfl, by rw [List.length_append]; simp; omega, by omega, by omega, HAS, HR2, HO4, HB4⟩
                      · rw [if_neg hsg] at hn2
                        have HR2 : Hid ((none, q - 1) = R) := Lib.hid (by rw [← HN0.out, ← hn2])
                        have HSG := Lib.hid hsg
                        have e1 : ((q : Int) - 1) = ((q - 1 : Nat) : Int) := by omega
                        clear hn2 hsg
                        go_wp2_with fail
                        refine (sign_no S _ HSG.out).mono ?_
                        rintro e w' ⟨rfl, rfl⟩
                        go_wp2_with fail
                        refine bodyPost_ret (v := .tuple #[.string ⟨#[]⟩, .int .i64 ((q - 1 : Nat) : Int), .bool false]) (by simp [results, Tryz.results50, go_sem, e1]) rfl ?_
                        rw [← HR2.out]
                        exact ⟨rfl, hB.out⟩
                · have HR2 : Hid ((none, i + 1) = R) := Lib.hid (by have := HQ.out; rw [if_neg h85] at this; exact this)
                  rw [decide_eq_false h85] at HSV
                  clear HQ h117 h85
                  go_wp2_with fail
                  refine (HSU.out _ HW.out).mono ?_
                  rintro e w' ⟨rfl, rfl⟩
                  go_wp2_with fail
                  refine (HSV.out _ HW.out).mono ?_
                  rintro e w' ⟨rfl, rfl⟩
                  go_wp2_with fail
                  refine bodyPost_ret (v := .tuple #[.string ⟨#[]⟩, .int .i64 ((i : Int) + 1), .bool false]) (by simp [results, Tryz.results50, go_sem]) rfl ?_
                  rw [← HR2.out]
                  exact ⟨by simp; rfl, hB.out⟩
            · have HR2 : Hid (iriGo l f (i + 1) (acc ++ [m]) = R) := Lib.hid (by have := HQ.out; rw [if_neg h92] at this; exact this)
              have t92 : (m != 92) = true := by simpa using h92
              have HAS := Lib.hid (HA.out.snoc HSG.out)
              have hsz := hB.out.size
              clear HQ HSU HSV HSE h10 h62 h92 hm1
              go_wp2_with (at_builtin; refine wpList_append_own _ rfl (.tmp 42) (.tmp 47) 32 rfl w.heap.size 3 i0 (.int .i64 0) 1 8 Tryz.underlying32 hi hz0 hz1 hz2 rfl (by decide) _ _ _ rfl (hO.out.alloc _) ⟨wr.heap.size, 0, none⟩ 1 1 [.int .i64 m] rfl rfl (cell_one_new _ _ _) (by simp [Value.oneCell']) (by unfold maxLen; omega) (by omega) (by simp; omega) ?_; intro v' w4 oa ga _; obtain ⟨a', c', rfl⟩ := own_form oa; have hb4 : Below w.heap.size w w4 := (hB.out.alloc (by omega) _).grown ga (by simp; omega) (fun g hg => (hO.out.lt g hg).1); clear ga)
              have HO4 : Hid (w4.ownsRow w.heap.size 3 1 (.slice a' (acc ++ [m]).length c') (acc ++ [m]).length (intsV (acc ++ [m]))) := Lib.hid (by rw [List.length_append, intsV_snoc]; exact oa)
              have HB4 := Lib.hid hb4
              clear oa hb4
              go_wp2_with fail
              go_roundg f
              case measure => omega
              case rel => exact ⟨i + 1, acc ++ [m], a', c', by rw [List.length_append]; rfl, by go_num, by rw [List.length_append]; simp; omega, by omega, by omega, HAS, HR2, HO4, HB4⟩
      · obtain rfl : i = l.length := by omega
        have HR2 : Hid ((none, l.length) = R) := Lib.hid (by
          have h1 := hQ.out
          cases gk with
          | zero => exact h1
          | succ f => rw [riri_eq, pk_no (Nat.le_refl _), if_pos (.inl rfl)] at h1; exact h1)
        rw [pk_no (Nat.le_refl _), decide_eq_false (by decide)] at HSE
        have t0 : ¬ ((l.length : Nat) : Int) < (l.length : Int) := by omega
        clear hQ
        go_wp2_with fail
        refine HSE.out.mono ?_
        rintro e w' ⟨rfl, rfl⟩
        go_wp2_with fail
        refine bodyPost_ret (v := .tuple #[.string ⟨#[]⟩, .int .i64 l.length, .bool false]) (by simp [results, Tryz.results50, go_sem]) rfl ?_
        rw [← HR2.out]
        exact ⟨rfl, hB.out⟩
  · rw [decide_eq_false h60] at hS0
    have HS0 := Lib.hid hS0
    have HR2 : Hid (R = (none, p)) := Lib.hid (by rw [HR.out]; unfold iriT; rw [if_neg h60])
    clear hS0 HR h60
    go_enter Tryz.func50, Tryz.ntmps50
    go_wp2_with fail
    refine HS0.out.mono ?_
    rintro e w' ⟨rfl, rfl⟩
    go_wp2_with fail
    refine bodyPost_ret (v := .tuple #[.string ⟨#[]⟩, .int .i64 p, .bool false]) (by simp [results, Tryz.results50, go_sem]) rfl ?_
    rw [HR2.out]
    exact ⟨rfl, Below.refl _ _⟩
end Go.Proofs.YtbchkhjkajagfaaGreatDoor
