/- The law ScanAgain: its walk. Every string and place. -/
import Derived.Test.YteicjmippeobpaaDoorScRows
import Derived.Deep.RegionWith
namespace Go.Proofs.YteicjmippeobpaaDoor
open Go Go.RowKit
set_option linter.unusedVariables false
/-- the scanner at a place, the row, and what is older than both -/
def St (l : List Int) (p X g cap : Nat) (a : Option Addr) (c : Nat) (w0 w : World) : Prop := ScW l p X g cap w ∧ SgAt l a c X w ∧ Below w0.heap.size w0 w ∧ w0.heap.size ≤ X ∧ (∀ n ∈ l, SignP n) ∧ l.length ≤ 300
theorem St.below {l : List Int} {p X g cap : Nat} {a : Option Addr} {c : Nat} {w0 w w' : World} (h : St l p X g cap a c w0 w) (hb : Below w.heap.size w w') : St l p X g cap a c w0 w' :=
  ⟨h.1.keep hb, h.2.1.below hb, h.2.2.1.trans (hb.mono h.2.2.1.size), h.2.2.2⟩
theorem St.drew {l : List Int} {p X g cap : Nat} {a : Option Addr} {c : Nat} {w0 w : World} (h : St l p X g cap a c w0 w) : St l p X g cap a c w0 w.drew := h.below (Below.refl w.heap.size w).drew
theorem St.moved {l : List Int} {p q X g cap : Nat} {a : Option Addr} {c : Nat} {v : Value} {w0 w w' : World} {e : Ending} (h : St l p X g cap a c w0 w) (hm : Moved l q X g cap v w e w') : e = .returned v ∧ St l q X g cap a c w0 w' :=
  ⟨hm.1, hm.2.1, h.2.1.sk hm.2.2, h.2.2.1.trans (hm.2.2.1.mono h.2.2.2.1), h.2.2.2⟩
theorem tBytes_read {s : ByteArray} {l : List Int} (h : Read s.data.toList l []) : tBytes (l.drop 0) = s := by
  unfold tBytes
  apply ByteArray.ext
  apply Array.toList_inj.mp
  have := h.1
  simpa using this.symm
theorem six_alloc {w : World} {X : Nat} (h : X < w.heap.size) (l : List Int) (p g cap : Nat) (hS : ScW l p X g cap w) : ScW l p X g cap (w.alloc (.cells sixV 3)) ∧ (w.alloc (.cells sixV 3)).heap[w.heap.size]? = some (.cells sixV 3 (0, 0)) ∧ SK X w (w.alloc (.cells sixV 3)) := by
  have hb := (Below.refl w.heap.size w).alloc (Nat.le_refl _) (.cells sixV 3)
  exact ⟨hS.keep hb, heap_alloc_new _ _, SK.below hb (Nat.le_of_lt h)⟩
theorem run_st {l : List Int} {p X g cap : Nat} {a : Option Addr} {c : Nat} {w0 : World} (w : World) (h : St l p X g cap a c w0 w) :
    Calls Tryd.prog 27 #[.pointer (some ⟨X, 0, none⟩), .slice (some ⟨w.heap.size, 0, none⟩) 6 6] (w.alloc (.cells sixV 3)) fun e w' => e = .returned (.string (tBytes (l.drop p))) ∧ St l l.length X g cap a c w0 w' := by
  obtain ⟨hs6, hc6, hk6⟩ := six_alloc h.1.lt l p g cap h.1
  have h2 : St l p X g cap a c w0 (w.alloc (.cells sixV 3)) := h.below ((Below.refl w.heap.size w).alloc (Nat.le_refl _) (.cells sixV 3))
  have hne : w.heap.size ≠ X := by have := h.1.lt; omega
  refine (run_six l p X g cap w.heap.size _ hs6 h.2.2.2.2.1 (by have := h.2.2.2.2.2; omega) hc6 hne).mono ?_
  intro e w' hm
  exact h2.moved hm
theorem run_std {l : List Int} {p X g cap : Nat} {a : Option Addr} {c : Nat} {w0 : World} (w : World) (h : St l p X g cap a c w0 w) :
    Calls Tryd.prog 27 #[.pointer (some ⟨X, 0, none⟩), .slice (some ⟨w.heap.size, 0, none⟩) 6 6] (w.alloc (.cells sixV 3)).drew fun e w' => e = .returned (.string (tBytes (l.drop p))) ∧ St l l.length X g cap a c w0 w' := by
  obtain ⟨hs6, hc6, hk6⟩ := six_alloc h.1.lt l p g cap h.1
  have h2 : St l p X g cap a c w0 (w.alloc (.cells sixV 3)).drew := (h.below ((Below.refl w.heap.size w).alloc (Nat.le_refl _) (.cells sixV 3))).drew
  have hne : w.heap.size ≠ X := by have := h.1.lt; omega
  refine (run_six l p X g cap w.heap.size _ h2.1 h.2.2.2.2.1 (by have := h.2.2.2.2.2; omega) hc6 hne).mono ?_
  intro e w' hm
  exact h2.moved hm
theorem text_st {l : List Int} {p X g cap : Nat} {a : Option Addr} {c : Nat} {w0 : World} (k : Nat) (a' : Option Addr) (c' : Nat) (w : World) (h : St l p X g cap a c w0 w) (hcl : ∀ w, SgAt l a c X w → ClsAt (l.drop k) a' (l.length - k) X w) :
    Calls Tryd.prog 29 #[.slice a' (l.length - k) c'] w fun e w' => e = .returned (.string (tBytes (l.drop k))) ∧ St l p X g cap a c w0 w' := by
  refine (text_any (l.drop k) a' (l.length - k) c' X w (hcl w h.2.1) (fun x hx => h.2.2.2.2.1 x (List.mem_of_mem_drop hx)) (by have := h.2.2.2.2.2; omega)).mono ?_
  rintro e w' ⟨rfl, hb⟩
  exact ⟨rfl, h.below hb⟩
theorem end_st {l : List Int} {X g cap : Nat} {a : Option Addr} {c : Nat} {w0 : World} (w : World) (h : St l l.length X g cap a c w0 w) : Calls Tryd.prog 23 #[.pointer (some ⟨X, 0, none⟩)] w fun e w' => e = .returned (.bool true) ∧ St l l.length X g cap a c w0 w' := by
  refine (end_yes l _ X g cap _ h.1 rfl).mono ?_
  rintro e w' ⟨rfl, hb⟩
  exact ⟨rfl, h.below hb⟩
theorem back_st {l : List Int} {p X g cap : Nat} {a : Option Addr} {c : Nat} {w0 : World} (q : Nat) (w : World) (h : St l p X g cap a c w0 w) (hq : q ≤ l.length) : Calls Tryd.prog 28 #[.pointer (some ⟨X, 0, none⟩), .int .i64 q] w fun e w' => e = .returned (.bool true) ∧ St l q X g cap a c w0 w' := by
  refine (back_yes l p q X g cap _ h.1 hq).mono ?_
  intro e w' hm
  exact h.moved hm
theorem nback_st {l : List Int} {p X g cap : Nat} {a : Option Addr} {c : Nat} {w0 : World} (n : Int) (w : World) (h : St l p X g cap a c w0 w) (hq : n < 0 ∨ (l.length : Int) < n) : Calls Tryd.prog 28 #[.pointer (some ⟨X, 0, none⟩), .int .i64 n] w fun e w' => e = .returned (.bool false) ∧ St l p X g cap a c w0 w' := by
  refine (back_no l p X g cap n _ h.1 hq).mono ?_
  intro e w' hm
  exact h.moved hm
set_option maxRecDepth 100000 in
set_option maxHeartbeats 6400000 in
theorem again_walk (s : ByteArray) (a : Int) (w : World) (he : Esc w) (hs : s.size ≤ 9223372036854775807) (a0 : 0 ≤ a) (a255 : a ≤ 255) : Calls Tryd.prog 8 #[.string s, .int .u8 a] w fun e w' => e = .returned (.bool true) ∧ Below w.heap.size w w' := by
  have HA := Lib.hid (awake_any w he)
  have HA2 := Lib.hid (fun w' (hb : Below w.heap.size w w') => awake_any w' (he.below he.lt hb))
  clear he
  by_cases h1 : (300 : Int) < s.size
  · go_enter Tryd.func8, Tryd.ntmps8
    go_wp2_with fail
    refine HA.out.mono ?_
    rintro e w1 ⟨rfl, hb1⟩
    go_wp2_with fail
    refine (HA2.out _ hb1).mono ?_
    rintro e w2 ⟨rfl, hb2⟩
    go_wp2_with fail
    go_ret
    exact ⟨rfl, hb1.trans (hb2.mono hb1.size)⟩
  have a3 : (s.size : Int) ≤ 300 := by omega
  clear h1 hs
  obtain ⟨l, r, hr⟩ := read_some s.data.toList
  have hll := read_len hr
  have e1 : s.data.toList.length = s.size := rfl
  have hl3 : l.length ≤ 300 := by omega
  have HSG := Lib.hid hr.2.1
  clear hll e1
  rcases r with _ | ⟨x, r⟩
  · have NW := Lib.hid (fun w => new_ok s l w hr (by omega))
    have SG := Lib.hid (fun w => signs_row s l w hr (by omega))
    have HRD := Lib.hid hr
    clear hr
    obtain ⟨K, hK⟩ : ∃ K : Nat, (K : Int) = a % ((l.length : Int) + 1) := ⟨(a % ((l.length : Int) + 1)).toNat, by have := Int.emod_nonneg a (show ((l.length : Int) + 1) ≠ 0 by omega); omega⟩
    have hK2 : K ≤ l.length := by have := Int.emod_lt_of_pos a (show 0 < ((l.length : Int) + 1) by omega); omega
    have hmod := hK.symm
    clear hK
    go_enter Tryd.func8, Tryd.ntmps8
    go_wp2_with fail
    refine HA.out.mono ?_
    rintro e w1 ⟨rfl, hb1⟩
    go_wp2_with fail
    refine (SG.out _).mono ?_
    rintro e w2 ⟨a1, c1, rfl, ho, hb2⟩
    have HB := Lib.hid (hb1.trans (hb2.mono hb1.size))
    have HO := Lib.hid ho
    clear hb1 hb2 ho
    go_wp2_with fail
    refine (NW.out _).mono ?_
    rintro e w5 ⟨X, g, cap, rfl, hS, hX, hg, hb⟩
    have hXw : w.heap.size ≤ X := by have := HB.out.size; omega
    replace HB := Lib.hid (HB.out.trans (hb.mono HB.out.size))
    replace HO := Lib.hid (SgAt.of HO.out hb hX)
    have HS := Lib.hid hS
    clear hb hS
    have HT := Lib.hid (show St l 0 X g cap a1 c1 w w5 from ⟨HS.out, HO.out, HB.out, hXw, HSG.out, hl3⟩)
    have htb := tBytes_read HRD.out
    clear HS HB HO
    go_wp2_with fail
    have hr6 := run_st _ HT.out
    rw [htb] at hr6
    refine hr6.mono ?_
    rintro e w6 ⟨rfl, ht⟩
    replace HT := Lib.hid ht
    clear ht hr6 htb
    go_wp2_with fail
    refine (end_st _ HT.out).mono ?_
    rintro e w7 ⟨rfl, ht⟩
    replace HT := Lib.hid ht
    clear ht
    go_wp2_with fail
    refine (back_st K _ HT.out hK2).mono ?_
    rintro e w8 ⟨rfl, ht⟩
    replace HT := Lib.hid ht
    clear ht
    go_wp2_with fail
    refine (place_any l _ X g cap _ HT.out.1).mono ?_
    rintro e w9 ⟨rfl, rfl⟩
    obtain ⟨a', c', hsl, hcl⟩ := slice_ints l a1 c1 X K w8 HT.out.2.1 hK2
    have HCL := Lib.hid hcl
    clear hcl
    have hg1 : IntKind.i64.wrap ((l.length : Int) + 1) = (l.length : Int) + 1 := IntWalk.i64_in _ ⟨by omega, by omega⟩
    have hg0 : (l.length : Int) < (l.length : Int) + 1 := by omega
    clear HRD HSG
    go_wp2_with fail
    go_region_with (first
      | (go_at_call 24; refine (place_any l _ X g cap _ ht14.1).mono ?_; rintro e w15 ⟨rfl, rfl⟩)
      | (go_at_call 28; refine (nback_st (-1) _ ht13 (.inl (by decide))).mono ?_; rintro e w14 ⟨rfl, ht14⟩)
      | (go_at_call 28; refine (nback_st _ _ ht12 (.inr hg0)).mono ?_; rintro e w13 ⟨rfl, ht13⟩)
      | (go_at_call 23; refine (end_st _ ht11).mono ?_; rintro e w12 ⟨rfl, ht12⟩)
      | (go_at_call 29; refine (text_st K a' c' _ ht10 HCL.out).mono ?_; rintro e w11 ⟨rfl, ht11⟩)
      | (go_at_call 27; refine (run_std _ HT.out).mono ?_; rintro e w10 ⟨rfl, ht10⟩))
    all_goals
      go_wp2_with fail
      go_ret
      exact ⟨rfl, ht14.2.2.1⟩
  · have NW := Lib.hid (fun w => new_bad s l (x :: r) w hr (by simp) (by omega))
    have SG := Lib.hid (fun w => signs_any s l (x :: r) w hr (by omega))
    clear hr
    go_enter Tryd.func8, Tryd.ntmps8
    go_wp2_with fail
    refine HA.out.mono ?_
    rintro e w1 ⟨rfl, hb1⟩
    go_wp2_with fail
    refine (SG.out _).mono ?_
    rintro e w2 ⟨a1, c1, rfl, ho, hb2⟩
    have HB := Lib.hid (hb1.trans (hb2.mono hb1.size))
    clear hb1 hb2 ho
    go_wp2_with fail
    refine (NW.out _).mono ?_
    rintro e w5 ⟨rfl, hb⟩
    replace HB := Lib.hid (HB.out.trans (hb.mono HB.out.size))
    clear hb
    go_wp2_with fail
    go_ret
    exact ⟨rfl, HB.out⟩
end Go.Proofs.YteicjmippeobpaaDoor
