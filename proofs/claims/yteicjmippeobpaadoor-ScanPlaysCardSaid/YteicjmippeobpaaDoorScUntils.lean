/- The law ScanUntils: its walk. Every string and stop. -/
import Derived.Test.YteicjmippeobpaaDoorScUntil
import Derived.Deep.RegionWith
namespace Go.Proofs.YteicjmippeobpaaDoor
open Go Go.RowKit
set_option linter.unusedVariables false
theorem tBytes_add (a b : List Int) : tBytes a ++ tBytes b = tBytes (a ++ b) := by
  unfold tBytes
  exact bytes_eq (by rw [join_data]; simp [textB_append])
theorem tBytes_size (a : List Int) : (tBytes a).size ≤ 4 * a.length := by
  have := textB_le a
  simpa [tBytes, ByteArray.size] using this
theorem add_t (a b : List Int) (ha : a.length ≤ 1000000) (hb : b.length ≤ 1000000) (w : World) : (Op.stringOp .add (tBytes a) (tBytes b)).run Tryd.prog w = .ok (.string (tBytes (a ++ b))) w := by
  have h1 := tBytes_size a
  have h2 := tBytes_size b
  rw [run_string_add w _ _ (by omega) (by omega), tBytes_add]
theorem one_st {l : List Int} {p X g cap : Nat} {a : Option Addr} {c : Nat} {w0 : World} (v : Int) (hv : SignP v) (w : World) (h : St l p X g cap a c w0 w) :
    Calls Tryd.prog 29 #[.slice (some ⟨w.heap.size, 0, none⟩) 1 1] (w.alloc (.cells #[.int .i64 v] 3)) fun e w' => e = .returned (.string (tBytes [v])) ∧ St l p X g cap a c w0 w' := by
  have h2 : St l p X g cap a c w0 (w.alloc (.cells #[.int .i64 v] 3)) := (h.below ((Below.refl w.heap.size w).alloc (Nat.le_refl _) (.cells #[.int .i64 v] 3)))
  have hne : w.heap.size ≠ X := by have := h.1.lt; omega
  have hc : (w.alloc (.cells #[.int .i64 v] 3)).heap[w.heap.size]? = some (.cells #[.int .i64 v] 3 (0, 0)) := heap_alloc_new _ _
  refine (text_any [v] _ 1 1 X _ ⟨rfl, .inr ⟨w.heap.size, 0, rfl, hne, lt_of_block hc, fun j hj => ?_⟩⟩ (by simpa using hv) (by omega)).mono ?_
  · obtain rfl : j = 0 := by simpa using hj
    rw [Lib.cell_of_heap hc]
    rfl
  · rintro e w' ⟨rfl, hb⟩
    exact ⟨rfl, h2.below hb⟩
set_option maxRecDepth 100000 in
set_option maxHeartbeats 6400000 in
theorem untils_walk (s : ByteArray) (v : Int) (w : World) (he : Esc w) (hs : s.size ≤ 9223372036854775807) (v0 : -2147483648 ≤ v) (v1 : v ≤ 2147483647) : Calls Tryd.prog 9 #[.string s, .int .i32 v] w fun e w' => e = .returned (.bool true) ∧ Below w.heap.size w w' := by
  have HA := Lib.hid (awake_any w he)
  have HA2 := Lib.hid (fun w' (hb : Below w.heap.size w w') => awake_any w' (he.below he.lt hb))
  clear he
  by_cases h1 : (300 : Int) < s.size
  · go_enter Tryd.func9, Tryd.ntmps9
    go_wp2_with fail
    refine HA.out.mono ?_
    rintro e w1 ⟨rfl, hb1⟩
    go_wp2_with fail
    refine (HA2.out _ hb1).mono ?_
    rintro e w2 ⟨rfl, hb2⟩
    go_wp2_with fail
    go_ret
    exact ⟨rfl, hb1.trans (hb2.mono hb1.size)⟩
  have a3 : (s.size : Int) ≤ 300 := by omega
  clear h1 hs
  obtain ⟨l, r, hr⟩ := read_some s.data.toList
  have hll := read_len hr
  have e1 : s.data.toList.length = s.size := rfl
  have hl3 : l.length ≤ 300 := by omega
  have HSG := Lib.hid hr.2.1
  clear hll e1
  rcases r with _ | ⟨x, r⟩
  · have NW := Lib.hid (fun w => new_ok s l w hr (by omega))
    have SG := Lib.hid (fun w => signs_row s l w hr (by omega))
    have HRD := Lib.hid hr
    clear hr
    go_enter Tryd.func9, Tryd.ntmps9
    go_wp2_with fail
    refine HA.out.mono ?_
    rintro e w1 ⟨rfl, hb1⟩
    go_wp2_with fail
    refine (SG.out _).mono ?_
    rintro e w2 ⟨a1, c1, rfl, ho, hb2⟩
    have HB := Lib.hid (hb1.trans (hb2.mono hb1.size))
    have HO := Lib.hid ho
    clear hb1 hb2 ho
    go_wp2_with fail
    refine (NW.out _).mono ?_
    rintro e w5 ⟨X, g, cap, rfl, hS, hX, hg, hb⟩
    have hXw : w.heap.size ≤ X := by have := HB.out.size; omega
    replace HB := Lib.hid (HB.out.trans (hb.mono HB.out.size))
    replace HO := Lib.hid (SgAt.of HO.out hb hX)
    have HS := Lib.hid hS
    clear hb hS
    have HT := Lib.hid (show St l 0 X g cap a1 c1 w w5 from ⟨HS.out, HO.out, HB.out, hXw, HSG.out, hl3⟩)
    have HTB := Lib.hid (tBytes_read HRD.out)
    clear HS HB HO HRD HA HA2
    go_wp2_with fail
    go_loopw [10, 11] (fun wh i wr => ∃ k p : Nat, k ≤ p ∧ p ≤ l.length ∧ i = .int .i64 k ∧ wh = .string (tBytes (l.take p)) ∧ Hid (St l p X g cap a1 c1 w wr)) (fun _ i _ => l.length + 1 - (intOf i).toNat)
    case atStart => exact ⟨0, 0, by omega, by omega, rfl, rfl, HT⟩
    case round =>
      obtain ⟨k, p, hkp, hp, rfl, rfl, hT⟩ := hrel
      clear HT
      have hk1 : (k : Int) ≤ (l.length : Int) := by omega
      by_cases hlt : p + ix v (l.drop p) < l.length
      · obtain ⟨K, hK⟩ : ∃ K, K = ix v (l.drop p) := ⟨_, rfl⟩
        rw [← hK] at hlt
        have HV : Hid (l[p + K]'hlt = v) := Lib.hid (by
          have h1 := ix_at v (l.drop p) (by rw [List.length_drop]; omega)
          rw [List.getElem_drop] at h1
          simpa only [← hK] using h1)
        have hsv := Lib.hid (show SignP v by rw [← HV.out]; exact HSG.out _ (List.getElem_mem hlt))
        have HE : Hid (l.take p ++ ((l.drop p).take K ++ [v]) = l.take (p + K + 1)) := Lib.hid (by
          rw [List.take_succ_eq_append_getElem hlt, HV.out, List.take_add, List.append_assoc])
        have g9 : ∀ w : World, (Op.stringOp .add (tBytes ((l.drop p).take K)) (tBytes [v])).run Tryd.prog w = .ok (.string (tBytes ((l.drop p).take K ++ [v]))) w := add_t _ _ (by simp; omega) (by simp)
        have g10 : ∀ w : World, (Op.stringOp .add (tBytes (l.take p)) (tBytes ((l.drop p).take K ++ [v]))).run Tryd.prog w = .ok (.string (tBytes (l.take (p + K + 1)))) w := by
          rw [← HE.out]; exact add_t _ _ (by simp; omega) (by simp; omega)
        have HU := Lib.hid (until_yes l p X g cap v wr hT.out.1 HSG.out (by omega) K hK hlt)
        clear hK HV HE
        go_wp2_with fail
        refine HU.out.mono ?_
        intro e w6 hm
        obtain ⟨rfl, ht⟩ := hT.out.moved hm
        clear hm HU hT
        have HT := Lib.hid ht
        clear ht
        go_wp2_with fail
        refine (one_st v hsv.out _ HT.out).mono ?_
        rintro e w7 ⟨rfl, ht7⟩
        have hT7 := Lib.hid ht7
        clear ht7
        go_wp2_with fail
        go_roundw
        case rel => exact ⟨k + 1, p + K + 1, by omega, by omega, by go_num, rfl, hT7⟩
        case measure => simp [intOf]; omega
      · have HU := Lib.hid (until_no l p X g cap v wr hT.out.1 (by omega) (by rw [List.length_drop]; omega))
        have g10 : ∀ w : World, (Op.stringOp .add (tBytes (l.take p)) (tBytes (l.drop p))).run Tryd.prog w = .ok (.string s) w := by
          intro w
          rw [add_t _ _ (by simp; omega) (by simp; omega), List.take_append_drop]
          have := HTB.out
          rw [List.drop_zero] at this
          rw [this]
        go_wp2_with fail
        refine HU.out.mono ?_
        intro e w6 hm
        obtain ⟨rfl, ht⟩ := hT.out.moved hm
        clear hm HU hT hlt
        have HT := Lib.hid ht
        clear ht
        go_wp2_with fail
        refine (run_st _ HT.out).mono ?_
        rintro e w7 ⟨rfl, ht7⟩
        go_wp2_with fail
        refine (end_st _ ht7).mono ?_
        rintro e w8 ⟨rfl, ht8⟩
        go_wp2_with fail
        go_ret
        exact ⟨rfl, ht8.2.2.1⟩
  · have NW := Lib.hid (fun w => new_bad s l (x :: r) w hr (by simp) (by omega))
    have SG := Lib.hid (fun w => signs_any s l (x :: r) w hr (by omega))
    clear hr
    go_enter Tryd.func9, Tryd.ntmps9
    go_wp2_with fail
    refine HA.out.mono ?_
    rintro e w1 ⟨rfl, hb1⟩
    go_wp2_with fail
    refine (SG.out _).mono ?_
    rintro e w2 ⟨a1, c1, rfl, ho, hb2⟩
    have HB := Lib.hid (hb1.trans (hb2.mono hb1.size))
    clear hb1 hb2 ho
    go_wp2_with fail
    refine (NW.out _).mono ?_
    rintro e w5 ⟨rfl, hb⟩
    replace HB := Lib.hid (HB.out.trans (hb.mono HB.out.size))
    clear hb
    go_wp2_with fail
    go_ret
    exact ⟨rfl, HB.out⟩
end Go.Proofs.YteicjmippeobpaaDoor
