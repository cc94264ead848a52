/- The contract of the reference's Quoted. -/
import Derived.Test.YtbchkhjkajagfaaDoorScLetter
import Derived.Test.YtbchkhjkajagfaaDoorPkD
namespace Go.Proofs.YtbchkhjkajagfaaDoor
open Go Go.RowKit
set_option maxRecDepth 100000
set_option linter.unusedVariables false
def RQRes (R : Option (List Int) × Nat) (w : World) (e : Ending) (w' : World) : Prop :=
  ∃ a c, e = .returned (.tuple #[.slice a (R.1.getD []).length c, .int .i64 R.2, .bool R.1.isSome]) ∧ w'.ownsRow w.heap.size 3 1 (.slice a (R.1.getD []).length c) (R.1.getD []).length (intsV (R.1.getD [])) ∧ Below w.heap.size w w'
set_option maxHeartbeats 12800000 in
set_option maxRecDepth 100000 in
theorem rquoted_any (l : List Int) (p X cs : Nat) (a0 : Option Addr) (w : World) (h : ClsAt l a0 l.length X w) (hl : ∀ n ∈ l, SignP n) (hb : l.length ≤ 100000) (hp : p ≤ l.length) :
    Calls Tryd.prog 40 #[.slice a0 l.length cs, .int .i64 p] w (RQRes (quotedV l p) w) := by
  obtain ⟨i0, hi, hz0, hz1, hz2⟩ := info_parts infoI
  have HL := Lib.hid hl
  obtain ⟨R, hR⟩ : ∃ R, R = quotedV l p := ⟨_, rfl⟩
  have HR := Lib.hid hR
  rw [← hR]
  clear hl hR
  by_cases hpl : p < l.length
  · obtain ⟨b, off, rfl, hbl, hcc⟩ : ∃ b off, a0 = some ⟨b, off, none⟩ ∧ b < w.heap.size ∧ ∀ j (h : j < l.length), w.cell? ⟨b, off + j, none⟩ = some (.int .i64 (l[j]'h)) := by
      rcases h.2 with h0 | ⟨b, off, h1, h2, h3, h4⟩
      · omega
      · refine ⟨b, off, h1, h3, fun j hj => ?_⟩
        rw [h4 j hj, List.getD_eq_getElem?_getD, List.getElem?_eq_getElem hj]; rfl
    have HCC : Hid (∀ wr, Below w.heap.size w wr → ∀ j (h : j < l.length), wr.cell? ⟨b, off + j, none⟩ = some (.int .i64 (l[j]'h))) := Lib.hid (fun wr hbw j hj => (cell_same (hbw.block b hbl)).trans (hcc j hj))
    have hcp := hcc p hpl
    clear hcc h hbl
    have hx0 := HL.out _ (List.getElem_mem hpl)
    have hx1 : 0 ≤ l[p] ∧ l[p] ≤ 1114111 := by unfold SignP at hx0; omega
    have HT : Hid ((l.drop p).take 1 = [l[p]]) := Lib.hid (by rw [List.drop_eq_getElem_cons hpl]; rfl)
    clear hx0
    generalize l[p] = y at hcp hx1 HT
    obtain ⟨y0, y1⟩ := hx1
    by_cases h34 : y = 34
    · subst h34
      have HR2 : Hid (qgo l (l.length - p) (p + 1) [] = R) := Lib.hid (by rw [HR.out]; unfold quotedV; rw [if_pos HT.out])
      clear HR HT
      have hple : ¬ l.length ≤ p := by omega
      go_enter Tryd.func40, Tryd.ntmps40
      go_wp2_with fail
      clear hcp
      go_loopg [7, 8] (l.length - p) (fun gn s7 s8 wr => ∃ (i : Nat) (acc : List Int) (a : Option Addr) (c : Nat), s7 = .slice a acc.length c ∧ s8 = .int .i64 i ∧ acc.length ≤ i ∧ i ≤ l.length ∧ l.length ≤ gn + i ∧ Hid (qgo l gn i acc = R) ∧ Hid (wr.ownsRow w.heap.size 3 1 (.slice a acc.length c) acc.length (intsV acc)) ∧ Hid (Below w.heap.size w wr))
      case atStart => exact ⟨p + 1, [], none, 0, rfl, by go_num, by simp, by omega, by omega, HR2, Lib.hid (World.ownsRow_nil _ _ _ _), Lib.hid (Below.refl _ _)⟩
      case round =>
        obtain ⟨i, acc, a, c, rfl, rfl, hai, hil, hgi, hQ, hO, hB⟩ := hrel
        clear HR2
        by_cases hlt : i < l.length
        · obtain ⟨f, rfl⟩ : ∃ f, gk = f + 1 := ⟨gk - 1, by omega⟩
          have hq2 := hQ.out
          unfold qgo at hq2
          rw [dif_pos hlt] at hq2
          have HQ := Lib.hid hq2
          have hci := HCC.out wr hB.out i hlt
          have hx0 := HL.out _ (List.getElem_mem hlt)
          have hx1 : 0 ≤ l[i] ∧ l[i] ≤ 1114111 := by unfold SignP at hx0; omega
          clear hq2 hQ hx0
          generalize l[i] = m at HQ hci hx1
          obtain ⟨m0, m1⟩ := hx1
          by_cases h34 : m = 34
          · subst h34
            have HQ3 : Hid ((some acc, i + 1) = R) := Lib.hid (by have := HQ.out; rw [if_pos rfl] at this; exact this)
            clear HQ
            go_wp2_with fail
            go_ret3
            rw [← HQ3.out]
            exact ⟨a, c, rfl, hO.out, hB.out⟩
          · rw [if_neg h34] at HQ
            have t34 : (m == (34 : Int)) = false := beq_eq_false_iff_ne.mpr h34
            by_cases h92 : m = 92
            · subst h92
              have HQ2 : Hid ((match escV l (i + 1) with | (some x, j) => qgo l f j (acc ++ [x]) | (none, j) => (none, j)) = R) := Lib.hid (by have := HQ.out; rw [if_pos rfl] at this; exact this)
              clear HQ h34 t34
              by_cases hl2 : i + 1 < l.length
              · have hci2 := HCC.out wr hB.out (i + 1) hl2
                have hx0 := HL.out _ (List.getElem_mem hl2)
                have hx1 : 0 ≤ l[i + 1] ∧ l[i + 1] ≤ 1114111 := by unfold SignP at hx0; omega
                obtain ⟨E, hE⟩ : ∃ E, E = escV l (i + 1) := ⟨_, rfl⟩
                rw [← hE] at HQ2
                have he2 := hE.symm
                unfold escV at he2
                rw [dif_pos hl2] at he2
                have HE2 := Lib.hid he2
                clear hx0 hE he2
                generalize l[i + 1] = z at HE2 hci2 hx1
                obtain ⟨z0, z1⟩ := hx1
                go_wp2_with fail
                clear hci hci2
                go_loop [11, 12] (fun s11 s12 => ∃ m : Nat, m ≤ 160 ∧ s12 = .int .i64 m ∧ s11 = .int .i64 (plainV z m)) (fun _ s12 => 160 - (intOf s12).toNat)
                case atStart => exact ⟨0, by omega, rfl, by rw [plain_zero]⟩
                case round =>
                  obtain ⟨m, hm, rfl, rfl⟩ := hrel
                  by_cases hmk : m < 160
                  · obtain ⟨P, hP⟩ : ∃ P, P = plainV z m := ⟨_, rfl⟩
                    have HP := Lib.hid hP
                    rw [← hP]
                    clear hP
                    obtain ⟨y, hy⟩ : ∃ y, y = letterV m := ⟨_, rfl⟩
                    have HY := Lib.hid hy
                    have hyi := letter_in m
                    rw [← hy] at hyi
                    clear hy
                    obtain ⟨yi0, yi1⟩ := hyi
                    by_cases hh : y ≠ 0 ∧ y = z
                    · have HN : Hid (plainV z (m + 1) = m) := Lib.hid (plain_hit (by rw [← HY.out]; exact hh.2) (by rw [← HY.out]; exact hh.1))
                      obtain ⟨hh0, rfl⟩ := hh
                      have t0 : (y == (0 : Int)) = false := beq_eq_false_iff_ne.mpr hh0
                      go_wp2_with fail
                      refine (letter_any m _ (by omega) (by omega)).mono ?_
                      rintro e w' ⟨rfl, rfl⟩
                      rw [← HY.out]
                      go_wp2_with fail
                      go_round
                      case rel => exact ⟨m + 1, by omega, by go_num, by rw [HN.out]⟩
                      case measure => simp [intOf]; omega
                    · have HN : Hid (plainV z (m + 1) = P) := Lib.hid (by rw [HP.out]; exact plain_miss (by rw [← HY.out]; exact hh))
                      by_cases hy0 : y = 0
                      · subst hy0
                        clear hh
                        go_wp2_with fail
                        refine (letter_any m _ (by omega) (by omega)).mono ?_
                        rintro e w' ⟨rfl, rfl⟩
                        rw [← HY.out]
                        go_wp2_with fail
                        go_round
                        case rel => exact ⟨m + 1, by omega, by go_num, by rw [HN.out]⟩
                        case measure => simp [intOf]; omega
                      · have hyz : ¬ y = z := fun h => hh ⟨hy0, h⟩
                        have t0 : (y == (0 : Int)) = false := beq_eq_false_iff_ne.mpr hy0
                        have t1 : (y == z) = false := beq_eq_false_iff_ne.mpr hyz
                        clear hh
                        go_wp2_with fail
                        refine (letter_any m _ (by omega) (by omega)).mono ?_
                        rintro e w' ⟨rfl, rfl⟩
                        rw [← HY.out]
                        go_wp2_with fail
                        go_round
                        case rel => exact ⟨m + 1, by omega, by go_num, by rw [HN.out]⟩
                        case measure => simp [intOf]; omega
                  · obtain rfl : m = 160 := by omega
                    by_cases h39 : z = 39
                    · subst h39
                      have HR2 : Hid (qgo l f (i + 2) (acc ++ [39]) = R) := Lib.hid (by
                        have h1 := HE2.out
                        have h2 := HQ2.out
                        rw [show escOf 39 = some 39 from rfl] at h1
                        rw [← h1] at h2
                        exact h2)
                      clear HE2 HQ2
                      have hsz := hB.out.size
                      go_wp2_with (at_builtin; refine wpList_append_own _ rfl (.tmp 87) (.tmp 89) 23 rfl w.heap.size 3 i0 (.int .i64 0) 1 8 Tryd.underlying23 hi hz0 hz1 hz2 rfl (by decide) _ _ _ rfl (hO.out.alloc _) ⟨wr.heap.size, 0, none⟩ 1 1 [.int .i64 39] rfl rfl (cell_one_new _ _ _) (by simp [Value.oneCell']) (by unfold maxLen; omega) (by omega) (by simp; omega) ?_; intro v' w4 oa ga _; obtain ⟨a', c', rfl⟩ := own_form oa; have hb4 : Below w.heap.size w w4 := (hB.out.alloc (by omega) _).grown ga (by simp; omega) (fun g hg => (hO.out.lt g hg).1); clear ga)
                      have HO4 : Hid (w4.ownsRow w.heap.size 3 1 (.slice a' (acc ++ [39]).length c') (acc ++ [39]).length (intsV (acc ++ [39]))) := Lib.hid (by rw [List.length_append, intsV_snoc]; exact oa)
                      have HB4 := Lib.hid hb4
                      clear oa hb4
                      go_wp2_with fail
                      go_roundg f
                      case measure => omega
                      case rel => exact ⟨i + 2, acc ++ [39], a', c', by rw [List.length_append]; rfl, by go_num, by rw [List.length_append]; simp; omega, by omega, by omega, HR2, HO4, HB4⟩
                    · have hpe := plain_end z h39
                      rw [hpe]
                      clear hpe
                      have t39 : (z == (39 : Int)) = false := beq_eq_false_iff_ne.mpr h39
                      cases hes : escOf z with
                      | some x =>
                        have HR2 : Hid (qgo l f (i + 2) (acc ++ [x]) = R) := Lib.hid (by
                          have h1 := HE2.out
                          have h2 := HQ2.out
                          rw [hes] at h1
                          rw [← h1] at h2
                          exact h2)
                        have hx := escOf_sign hes
                        have hx1 : 0 ≤ x ∧ x ≤ 1114111 := by unfold SignP at hx; omega
                        obtain ⟨x0, x1⟩ := hx1
                        rw [show (some x).getD (-1 : Int) = x from rfl]
                        clear HE2 HQ2 hes hx
                        have hsz := hB.out.size
                        go_wp2_with (at_builtin; refine wpList_append_own _ rfl (.tmp 87) (.tmp 89) 23 rfl w.heap.size 3 i0 (.int .i64 0) 1 8 Tryd.underlying23 hi hz0 hz1 hz2 rfl (by decide) _ _ _ rfl (hO.out.alloc _) ⟨wr.heap.size, 0, none⟩ 1 1 [.int .i64 x] rfl rfl (cell_one_new _ _ _) (by simp [Value.oneCell']) (by unfold maxLen; omega) (by omega) (by simp; omega) ?_; intro v' w4 oa ga _; obtain ⟨a', c', rfl⟩ := own_form oa; have hb4 : Below w.heap.size w w4 := (hB.out.alloc (by omega) _).grown ga (by simp; omega) (fun g hg => (hO.out.lt g hg).1); clear ga)
                        have HO4 : Hid (w4.ownsRow w.heap.size 3 1 (.slice a' (acc ++ [x]).length c') (acc ++ [x]).length (intsV (acc ++ [x]))) := Lib.hid (by rw [List.length_append, intsV_snoc]; exact oa)
                        have HB4 := Lib.hid hb4
                        clear oa hb4
                        go_wp2_with fail
                        go_roundg f
                        case measure => omega
                        case rel => exact ⟨i + 2, acc ++ [x], a', c', by rw [List.length_append]; rfl, by go_num, by rw [List.length_append]; simp; omega, by omega, by omega, HR2, HO4, HB4⟩
                      | none =>
                        rw [show (none : Option Int).getD (-1 : Int) = -1 from rfl]
                        have he3 := HE2.out
                        rw [hes] at he3
                        clear HE2 hes
                        by_cases h117 : z = 117
                        · subst h117
                          have HE2 : numV l 4 (i + 2) 0 = E := he3
                          clear he3 t39 h39
                          have HN0 : Hid (numV l 4 (i + 2) 0 = E) := Lib.hid HE2
                          clear HE2
                          go_wp2_with fail
                          go_loop [8, 15, 16] (fun s8 s15 s16 => ∃ (k q : Nat) (S : Int), k ≤ 4 ∧ q ≤ i + 2 + k ∧ i + 2 + k ≤ q ∧ q ≤ l.length ∧ s16 = .int .i64 k ∧ s8 = .int .i64 q ∧ s15 = .int .i64 S ∧ 0 ≤ S ∧ Hid (S < (16 : Int) ^ k) ∧ Hid (numV l (4 - k) q S = E)) (fun _ _ k => 4 - (intOf k).toNat)
                          case atStart => exact ⟨0, i + 2, 0, by omega, by omega, by omega, by omega, rfl, by go_num, rfl, by omega, Lib.hid (by simp), HN0⟩
                          case round =>
                            obtain ⟨k, q, S, hkD, hqe1, hqe2, hql, rfl, rfl, rfl, hS0, hSP, hN⟩ := hrel
                            clear HN0
                            have hS1 : S < 4294967296 := by have := hSP.out; have := pow_small k (by omega); omega
                            by_cases hk : k < 4
                            · obtain ⟨d, hd⟩ : ∃ d, 4 - k = d + 1 := ⟨4 - k - 1, by omega⟩
                              have hn2 := hN.out
                              rw [hd] at hn2
                              unfold numV at hn2
                              clear hN
                              by_cases hq : q < l.length
                              · rw [dif_pos hq] at hn2
                                have HN2 := Lib.hid hn2
                                have hcq := HCC.out wr hB.out q hq
                                have hx0 := HL.out _ (List.getElem_mem hq)
                                have hx1 : 0 ≤ l[q] ∧ l[q] ≤ 1114111 := by unfold SignP at hx0; omega
                                clear hn2 hx0
                                generalize l[q] = x at HN2 hcq hx1
                                obtain ⟨x0, x1⟩ := hx1
                                go_wp2_with fail
                                refine (rhex_any x _ (by omega) (by omega)).mono ?_
                                rintro e w' ⟨rfl, rfl⟩
                                obtain ⟨v, hv⟩ : ∃ v, v = hexV x := ⟨_, rfl⟩
                                have HV := Lib.hid hv
                                have hv1 := hexV_lt x
                                rw [← hv] at HN2 hv1 ⊢
                                obtain ⟨v0, v1⟩ := hv1
                                clear hv
                                by_cases hneg : v < 0
                                · have HR2 : Hid ((none, q) = R) := Lib.hid (by have h1 := HN2.out; rw [if_pos hneg] at h1; rw [← HQ2.out, ← h1])
                                  go_wp2_with fail
                                  go_ret3
                                  rw [← HR2.out]
                                  exact ⟨none, 0, rfl, World.ownsRow_nil _ _ _ _, hB.out⟩
                                · have HN3 : Hid (numV l (4 - (k + 1)) (q + 1) (S * 16 + v) = E) := Lib.hid (by
                                    have h1 := HN2.out
                                    rw [if_neg hneg] at h1
                                    rw [show 4 - (k + 1) = d by omega]
                                    exact h1)
                                  have HSP2 : Hid (S * 16 + v < (16 : Int) ^ (k + 1)) := Lib.hid (by
                                    have := hSP.out
                                    rw [Int.pow_succ]
                                    generalize (16 : Int) ^ k = P at this ⊢
                                    omega)
                                  clear hSP HN2 hd
                                  go_wp2_with fail
                                  refine (rhex_any x _ (by omega) (by omega)).mono ?_
                                  rintro e w' ⟨rfl, rfl⟩
                                  rw [← HV.out]
                                  go_wp2_with fail
                                  go_round
                                  case rel => exact ⟨k + 1, q + 1, S * 16 + v, by omega, by omega, by omega, by omega, by go_num, by go_num, rfl, by omega, HSP2, HN3⟩
                                  case measure => simp [intOf]; omega
                              · rw [dif_neg hq] at hn2
                                have HR2 : Hid ((none, q) = R) := Lib.hid (by rw [← HQ2.out, ← hn2])
                                clear hn2
                                go_wp2_with fail
                                go_ret3
                                rw [← HR2.out]
                                exact ⟨none, 0, rfl, World.ownsRow_nil _ _ _ _, hB.out⟩
                            · obtain rfl : k = 4 := by omega
                              have hn2 := hN.out
                              rw [Nat.sub_self] at hn2
                              unfold numV at hn2
                              clear hN hSP hk hkD
                              by_cases hsg : SignP S
                              · rw [if_pos hsg] at hn2
                                have HR2 : Hid (qgo l f q (acc ++ [S]) = R) := Lib.hid (by rw [← HQ2.out, ← hn2])
                                have HSG := Lib.hid hsg
                                clear hn2 hsg
                                go_wp2_with fail
                                refine (sign_yes S _ HSG.out).mono ?_
                                rintro e w' ⟨rfl, rfl⟩
                                have hsz := hB.out.size
                                go_wp2_with (at_builtin; refine wpList_append_own _ rfl (.tmp 135) (.tmp 137) 23 rfl w.heap.size 3 i0 (.int .i64 0) 1 8 Tryd.underlying23 hi hz0 hz1 hz2 rfl (by decide) _ _ _ rfl (hO.out.alloc _) ⟨wr.heap.size, 0, none⟩ 1 1 [.int .i64 S] rfl rfl (cell_one_new _ _ _) (by simp [Value.oneCell']) (by unfold maxLen; omega) (by omega) (by simp; omega) ?_; intro v' w4 oa ga _; obtain ⟨a', c', rfl⟩ := own_form oa; have hb4 : Below w.heap.size w w4 := (hB.out.alloc (by omega) _).grown ga (by simp; omega) (fun g hg => (hO.out.lt g hg).1); clear ga)
                                have HO4 : Hid (w4.ownsRow w.heap.size 3 1 (.slice a' (acc ++ [S]).length c') (acc ++ [S]).length (intsV (acc ++ [S]))) := Lib.hid (by rw [List.length_append, intsV_snoc]; exact oa)
                                have HB4 := Lib.hid hb4
                                clear oa hb4
                                go_wp2_with fail
                                go_roundg f
                                case measure => omega
                                case rel => exact ⟨q, acc ++ [S], a', c', by rw [List.length_append]; rfl, rfl, by rw [List.length_append]; simp; omega, by omega, by omega, HR2, HO4, HB4⟩
                              · rw [if_neg hsg] at hn2
                                have HR2 : Hid ((none, q - 1) = R) := Lib.hid (by rw [← HQ2.out, ← hn2])
                                have HSG := Lib.hid hsg
                                have e1 : ((q : Int) - 1) = ((q - 1 : Nat) : Int) := by omega
                                clear hn2 hsg
                                go_wp2_with fail
                                refine (sign_no S _ HSG.out).mono ?_
                                rintro e w' ⟨rfl, rfl⟩
                                go_wp2_with fail
                                go_ret3
                                rw [← HR2.out]
                                exact ⟨none, 0, rfl, World.ownsRow_nil _ _ _ _, hB.out⟩
                        · by_cases h85 : z = 85
                          · subst h85
                            have HE2 : numV l 8 (i + 2) 0 = E := he3
                            clear he3 t39 h39 h117
                            have HN0 : Hid (numV l 8 (i + 2) 0 = E) := Lib.hid HE2
                            clear HE2
                            go_wp2_with fail
                            go_loop [8, 15, 16] (fun s8 s15 s16 => ∃ (k q : Nat) (S : Int), k ≤ 8 ∧ q ≤ i + 2 + k ∧ i + 2 + k ≤ q ∧ q ≤ l.length ∧ s16 = .int .i64 k ∧ s8 = .int .i64 q ∧ s15 = .int .i64 S ∧ 0 ≤ S ∧ Hid (S < (16 : Int) ^ k) ∧ Hid (numV l (8 - k) q S = E)) (fun _ _ k => 8 - (intOf k).toNat)
                            case atStart => exact ⟨0, i + 2, 0, by omega, by omega, by omega, by omega, rfl, by go_num, rfl, by omega, Lib.hid (by simp), HN0⟩
                            case round =>
                              obtain ⟨k, q, S, hkD, hqe1, hqe2, hql, rfl, rfl, rfl, hS0, hSP, hN⟩ := hrel
                              clear HN0
                              have hS1 : S < 4294967296 := by have := hSP.out; have := pow_small k (by omega); omega
                              by_cases hk : k < 8
                              · obtain ⟨d, hd⟩ : ∃ d, 8 - k = d + 1 := ⟨8 - k - 1, by omega⟩
                                have hn2 := hN.out
                                rw [hd] at hn2
                                unfold numV at hn2
                                clear hN
                                by_cases hq : q < l.length
                                · rw [dif_pos hq] at hn2
                                  have HN2 := Lib.hid hn2
                                  have hcq := HCC.out wr hB.out q hq
                                  have hx0 := HL.out _ (List.getElem_mem hq)
                                  have hx1 : 0 ≤ l[q] ∧ l[q] ≤ 1114111 := by unfold SignP at hx0; omega
                                  clear hn2 hx0
                                  generalize l[q] = x at HN2 hcq hx1
                                  obtain ⟨x0, x1⟩ := hx1
                                  go_wp2_with fail
                                  refine (rhex_any x _ (by omega) (by omega)).mono ?_
                                  rintro e w' ⟨rfl, rfl⟩
                                  obtain ⟨v, hv⟩ : ∃ v, v = hexV x := ⟨_, rfl⟩
                                  have HV := Lib.hid hv
                                  have hv1 := hexV_lt x
                                  rw [← hv] at HN2 hv1 ⊢
                                  obtain ⟨v0, v1⟩ := hv1
                                  clear hv
                                  by_cases hneg : v < 0
                                  · have HR2 : Hid ((none, q) = R) := Lib.hid (by have h1 := HN2.out; rw [if_pos hneg] at h1; rw [← HQ2.out, ← h1])
                                    go_wp2_with fail
                                    go_ret3
                                    rw [← HR2.out]
                                    exact ⟨none, 0, rfl, World.ownsRow_nil _ _ _ _, hB.out⟩
                                  · have HN3 : Hid (numV l (8 - (k + 1)) (q + 1) (S * 16 + v) = E) := Lib.hid (by
                                      have h1 := HN2.out
                                      rw [if_neg hneg] at h1
                                      rw [show 8 - (k + 1) = d by omega]
                                      exact h1)
                                    have HSP2 : Hid (S * 16 + v < (16 : Int) ^ (k + 1)) := Lib.hid (by
                                      have := hSP.out
                                      rw [Int.pow_succ]
                                      generalize (16 : Int) ^ k = P at this ⊢
                                      omega)
                                    clear hSP HN2 hd
                                    go_wp2_with fail
                                    refine (rhex_any x _ (by omega) (by omega)).mono ?_
                                    rintro e w' ⟨rfl, rfl⟩
                                    rw [← HV.out]
                                    go_wp2_with fail
                                    go_round
                                    case rel => exact ⟨k + 1, q + 1, S * 16 + v, by omega, by omega, by omega, by omega, by go_num, by go_num, rfl, by omega, HSP2, HN3⟩
                                    case measure => simp [intOf]; omega
                                · rw [dif_neg hq] at hn2
                                  have HR2 : Hid ((none, q) = R) := Lib.hid (by rw [← HQ2.out, ← hn2])
                                  clear hn2
                                  go_wp2_with fail
                                  go_ret3
                                  rw [← HR2.out]
                                  exact ⟨none, 0, rfl, World.ownsRow_nil _ _ _ _, hB.out⟩
                              · obtain rfl : k = 8 := by omega
                                have hn2 := hN.out
                                rw [Nat.sub_self] at hn2
                                unfold numV at hn2
                                clear hN hSP hk hkD
                                by_cases hsg : SignP S
                                · rw [if_pos hsg] at hn2
                                  have HR2 : Hid (qgo l f q (acc ++ [S]) = R) := Lib.hid (by rw [← HQ2.out, ← hn2])
                                  have HSG := Lib.hid hsg
                                  clear hn2 hsg
                                  go_wp2_with fail
                                  refine (sign_yes S _ HSG.out).mono ?_
                                  rintro e w' ⟨rfl, rfl⟩
                                  have hsz := hB.out.size
                                  go_wp2_with (at_builtin; refine wpList_append_own _ rfl (.tmp 135) (.tmp 137) 23 rfl w.heap.size 3 i0 (.int .i64 0) 1 8 Tryd.underlying23 hi hz0 hz1 hz2 rfl (by decide) _ _ _ rfl (hO.out.alloc _) ⟨wr.heap.size, 0, none⟩ 1 1 [.int .i64 S] rfl rfl (cell_one_new _ _ _) (by simp [Value.oneCell']) (by unfold maxLen; omega) (by omega) (by simp; omega) ?_; intro v' w4 oa ga _; obtain ⟨a', c', rfl⟩ := own_form oa; have hb4 : Below w.heap.size w w4 := (hB.out.alloc (by omega) _).grown ga (by simp; omega) (fun g hg => (hO.out.lt g hg).1); clear ga)
                                  have HO4 : Hid (w4.ownsRow w.heap.size 3 1 (.slice a' (acc ++ [S]).length c') (acc ++ [S]).length (intsV (acc ++ [S]))) := Lib.hid (by rw [List.length_append, intsV_snoc]; exact oa)
                                  have HB4 := Lib.hid hb4
                                  clear oa hb4
                                  go_wp2_with fail
                                  go_roundg f
                                  case measure => omega
                                  case rel => exact ⟨q, acc ++ [S], a', c', by rw [List.length_append]; rfl, rfl, by rw [List.length_append]; simp; omega, by omega, by omega, HR2, HO4, HB4⟩
                                · rw [if_neg hsg] at hn2
                                  have HR2 : Hid ((none, q - 1) = R) := Lib.hid (by rw [← HQ2.out, ← hn2])
                                  have HSG := Lib.hid hsg
                                  have e1 : ((q : Int) - 1) = ((q - 1 : Nat) : Int) := by omega
                                  clear hn2 hsg
                                  go_wp2_with fail
                                  refine (sign_no S _ HSG.out).mono ?_
                                  rintro e w' ⟨rfl, rfl⟩
                                  go_wp2_with fail
                                  go_ret3
                                  rw [← HR2.out]
                                  exact ⟨none, 0, rfl, World.ownsRow_nil _ _ _ _, hB.out⟩
                          · have HR2 : Hid ((none, i + 1) = R) := Lib.hid (by
                              have h2 := HQ2.out
                              simp only [if_neg h117, if_neg h85] at he3
                              rw [← he3] at h2
                              exact h2)
                            have t117 : (z == (117 : Int)) = false := beq_eq_false_iff_ne.mpr h117
                            have t85 : (z == (85 : Int)) = false := beq_eq_false_iff_ne.mpr h85
                            clear HQ2 he3
                            go_wp2_with fail
                            go_ret3
                            rw [← HR2.out]
                            exact ⟨none, 0, rfl, World.ownsRow_nil _ _ _ _, hB.out⟩
              · have HQ3 : Hid ((none, i + 1) = R) := Lib.hid (by
                  have := HQ2.out
                  unfold escV at this
                  rw [dif_neg hl2] at this
                  exact this)
                clear HQ2
                go_wp2_with fail
                go_ret3
                rw [← HQ3.out]
                exact ⟨none, 0, rfl, World.ownsRow_nil _ _ _ _, hB.out⟩
            · rw [if_neg h92] at HQ
              have t92 : (m == (92 : Int)) = false := beq_eq_false_iff_ne.mpr h92
              by_cases hnl : m = 10 ∨ m = 13
              · have HQ3 : Hid ((none, i) = R) := Lib.hid (by have := HQ.out; rw [if_pos hnl] at this; exact this)
                clear HQ h34 h92
                rcases hnl with rfl | rfl
                all_goals
                  go_wp2_with fail
                  go_ret3
                  rw [← HQ3.out]
                  exact ⟨none, 0, rfl, World.ownsRow_nil _ _ _ _, hB.out⟩
              · rw [if_neg hnl] at HQ
                have t10 : (m == (10 : Int)) = false := beq_eq_false_iff_ne.mpr (by omega)
                have t13 : (m == (13 : Int)) = false := beq_eq_false_iff_ne.mpr (by omega)
                clear h34 h92 hnl
                have hsz := hB.out.size
                go_wp2_with (at_builtin; refine wpList_append_own _ rfl (.tmp 55) (.tmp 57) 23 rfl w.heap.size 3 i0 (.int .i64 0) 1 8 Tryd.underlying23 hi hz0 hz1 hz2 rfl (by decide) _ _ _ rfl (hO.out.alloc _) ⟨wr.heap.size, 0, none⟩ 1 1 [.int .i64 m] rfl rfl (cell_one_new _ _ _) (by simp [Value.oneCell']) (by unfold maxLen; omega) (by omega) (by simp; omega) ?_; intro v' w4 oa ga _; obtain ⟨a', c', rfl⟩ := own_form oa; have hb4 : Below w.heap.size w w4 := (hB.out.alloc (by omega) _).grown ga (by simp; omega) (fun g hg => (hO.out.lt g hg).1); clear ga)
                have HO4 : Hid (w4.ownsRow w.heap.size 3 1 (.slice a' (acc ++ [m]).length c') (acc ++ [m]).length (intsV (acc ++ [m]))) := Lib.hid (by rw [List.length_append, intsV_snoc]; exact oa)
                have HB4 := Lib.hid hb4
                clear oa hb4
                go_wp2_with fail
                go_roundg f
                case measure => omega
                case rel => exact ⟨i + 1, acc ++ [m], a', c', by rw [List.length_append]; rfl, by go_num, by rw [List.length_append]; simp; omega, by omega, by omega, HQ, HO4, HB4⟩
        · have HQ3 : Hid ((none, i) = R) := Lib.hid (by rw [← hQ.out, qgo_end l _ i acc hlt])
          clear hQ
          go_wp2_with fail
          go_ret3
          rw [← HQ3.out]
          exact ⟨none, 0, rfl, World.ownsRow_nil _ _ _ _, hB.out⟩
    · have HR2 : Hid ((none, p) = R) := Lib.hid (by rw [HR.out]; unfold quotedV; rw [if_neg (by rw [HT.out]; simpa using h34)])
      have t34 : (y == (34 : Int)) = false := beq_eq_false_iff_ne.mpr h34
      clear HR HT
      have hple : ¬ l.length ≤ p := by omega
      go_enter Tryd.func40, Tryd.ntmps40
      go_wp2_with fail
      go_ret3
      rw [← HR2.out]
      exact ⟨none, 0, rfl, World.ownsRow_nil _ _ _ _, Below.refl _ _⟩
  · have HR2 : Hid ((none, p) = R) := Lib.hid (by
      rw [HR.out]; unfold quotedV
      rw [if_neg (by rw [List.drop_eq_nil_of_le (by omega)]; simp)])
    clear HR h
    go_enter Tryd.func40, Tryd.ntmps40
    go_wp2_with fail
    go_ret3
    rw [← HR2.out]
    exact ⟨none, 0, rfl, World.ownsRow_nil _ _ _ _, Below.refl _ _⟩
end Go.Proofs.YtbchkhjkajagfaaDoor
