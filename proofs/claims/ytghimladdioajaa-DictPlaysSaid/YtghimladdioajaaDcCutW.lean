/- Package dict over this seat's program: Cut's walk (under way). -/
import Derived.Test.YtghimladdioajaaDcCut
namespace Go.Proofs.Ytghimladdioajaa
open Go Go.RowKit
set_option linter.unusedVariables false
set_option linter.unusedSimpArgs false
theorem map_mid {base p m : Nat} {ts : List Tm} {room : Int} {w : World} {v : Value} {es : Array MapEntry} {clock : Nat} (es' : Array MapEntry) (c' : Nat)
    (h1 : w.heap[p]? = some (.cells #[v, .map (some m), .int .i64 room] 89 (0, 0))) (h2 : w.heap[m]? = some (.map es clock)) (h4 : RowT w base v ts) :
    (setMap w m es' c').heap[p]? = some (.cells #[v, .map (some m), .int .i64 room] 89 (0, 0)) ∧ RowT (setMap w m es' c') base v ts := by
  have hpm : p ≠ m := by
    rintro rfl
    rw [h1] at h2
    cases h2
  refine ⟨(setMap_other _ _ _ _ hpm).trans h1, rowT_kept h4 fun g hg => setMap_other _ _ _ _ ?_⟩
  rintro rfl
  exact row_far h4 h2 (map_far _ _) hg
theorem rowT_take {w : World} {base g cap : Nat} {ts : List Tm} (h : RowT w base (.slice (some ⟨g, 0, none⟩) ts.length cap) ts) (j : Nat) (hj : j ≤ ts.length) : RowT w base (.slice (some ⟨g, 0, none⟩) j j) (ts.take j) := by
  rcases h with ⟨hv, _⟩ | ⟨g', cap', cur, hv, h1, h2, h3, h4, h5, h6⟩
  · cases hv
  · injection hv with hv1 _ hv3
    injection hv1 with hv2
    injection hv2 with hv4 _ _
    subst hv4
    have hl : (ts.take j).length = j := by rw [List.length_take]; omega
    refine .inr ⟨g, j, cur, by rw [hl], h1, h2, by omega, by omega, by omega, ?_⟩
    rw [hl, List.map_take, ← h6, List.take_take]
    congr 1
    omega
theorem cut_done {base p m : Nat} {ts : List Tm} {room : Int} {w : World} {es es' : Array MapEntry} {clock g cap j k : Nat} (hbase : base ≤ w.heap.size) (h1 : w.heap[p]? = some (.cells #[.slice (some ⟨g, 0, none⟩) ts.length cap, .map (some m), .int .i64 room] 89 (0, 0)))
    (h2 : w.heap[m]? = some (.map es clock)) (h3 : Ents es ts) (h4 : RowT w base (.slice (some ⟨g, 0, none⟩) ts.length cap) ts) (h5 : base ≤ p) (h6 : base ≤ m) (h7 : ∀ k ∈ ts, KeyT k) (h8 : ts.length ≤ 65536) (hj : j ≤ ts.length) (hk : j + k = ts.length)
    (hs : es'.toList = es.toList.take j ++ es.toList.drop (j + k)) :
    DcAt base p m (ts.take j) room ((setMap w m es' clock).setCell ⟨p, 0, none⟩ (.slice (some ⟨g, 0, none⟩) j j)) ∧ DK base p m w ((setMap w m es' clock).setCell ⟨p, 0, none⟩ (.slice (some ⟨g, 0, none⟩) j j)) := by
  obtain ⟨r1, r2⟩ := map_mid es' clock h1 h2 h4
  have hpm : p ≠ m := by
    rintro rfl
    rw [h1] at h2
    cases h2
  have hl0 : es.toList.length = ts.length := by rw [Array.length_toList, h3.1]
  have hs' : es'.toList = es.toList.take j := by
    rw [hs, List.drop_eq_nil_of_le (by omega), List.append_nil]
  have hl : (ts.take j).length = j := by rw [List.length_take]; omega
  refine ⟨⟨_, _, _, set_first r1 _, (Below.heap_setCell _ ⟨p, 0, none⟩ _ m (Ne.symm hpm)).trans (setMap_same _ _ _ (lt_heap h2)), ⟨?_, ?_⟩, ?_, h5, h6, fun x hx => h7 x (List.mem_of_mem_take hx), by omega⟩, ?_, ?_⟩
  · rw [hl, ← Array.length_toList, hs', List.length_take]
    omega
  · intro i hi
    obtain ⟨e, e1, e2, e3⟩ := h3.2 i (by omega)
    refine ⟨e, ?_, by rw [e2, List.getElem_take], e3⟩
    rw [← Array.getElem?_toList, hs', List.getElem?_take, if_pos (by omega), Array.getElem?_toList, e1]
  · refine rowT_kept (rowT_take r2 j hj) fun g' hg' => Below.heap_setCell _ _ _ _ ?_
    intro e
    exact row_far (rowT_take r2 j hj) r1 (dict_far _ _ _) (hg'.trans (congrArg some e))
  · exact (setMap_below _ _ _ h6).setCell (p := ⟨p, 0, none⟩) h5 _
  · intro k' o' hk hkp hkm _
    exact (Below.heap_setCell _ ⟨p, 0, none⟩ _ k' hkp).trans ((setMap_other _ _ _ _ hkm).trans hk)
set_option maxHeartbeats 1600000 in
theorem cut_many {base p m : Nat} {ts : List Tm} {room : Int} {w : World} (n : Int) (j : Nat) (hj : (j : Int) = min (max n 0) (ts.length : Int)) (h0 : j < ts.length) (h : DcAt base p m ts room w) (hd : Dist ts) (hbase : base ≤ w.heap.size) :
    Calls Try.prog 17 #[.pointer (some ⟨p, 0, none⟩), .int .i64 n] w fun e w' => e = .returned (.int .i64 ((ts.length : Int) - j)) ∧ DcAt base p m (ts.take j) room w' ∧ DK base p m w w' := by
  obtain ⟨v, es, clock, h1, h2, h3, h4, h5, h6, h7, h8⟩ := h
  obtain ⟨g, cap, hv, -⟩ := row_cell h4 j h0
  subst hv
  have HR := Lib.hid h4
  obtain ⟨c0, c1, c2, f0⟩ := cells3 h1
  have H1 := Lib.hid h1; have H2 := Lib.hid h2; have H3 := Lib.hid h3; have H7 := Lib.hid h7; have HD := Lib.hid hd
  have hcap : ts.length ≤ cap := by
    rcases h4 with ⟨hv, _⟩ | ⟨g', cap', cur, hv, _, _, hle, _⟩
    · cases hv
    · injection hv with _ _ hc
      omega
  have hjl : j ≤ ts.length := by omega
  have b1 : (0 : Int) ≤ min (max n 0) (ts.length : Int) := by omega
  have b2 : min (max n 0) (ts.length : Int) ≤ (ts.length : Int) := by omega
  have b3 : min (max n 0) (ts.length : Int) ≤ (cap : Int) := by omega
  have b4 : (ts.length : Int) ≤ (cap : Int) := by omega
  clear h1 h2 h3 h4 h7 hd c2
  go_enter Try.func17, Try.ntmps17
  go_wp2_with fail
  all_goals rw [← hj]
  all_goals simp only [Int.toNat_natCast]
  all_goals first | (exfalso; omega) | skip
  go_loopw [24] (fun i wr => ∃ (k : Nat) (es' : Array MapEntry), k ≤ ts.length - j ∧ i = .int .i64 k ∧ wr = setMap w m es' clock ∧ Hid (es'.toList = es.toList.take j ++ es.toList.drop (j + k))) (fun i _ => (ts.length - j) - (intOf i).toNat)
  case atStart => exact ⟨0, es, by omega, rfl, (setMap_self H2.out).symm, Lib.hid (by simp)⟩
  case round =>
    obtain ⟨k, es', hk, rfl, rfl, hs⟩ := hrel
    obtain ⟨r1, r2⟩ := map_mid es' clock H1.out H2.out HR.out
    obtain ⟨d0, d1, d2, g0⟩ := cells3 r1
    have R1 := Lib.hid r1
    have R2 := Lib.hid r2
    by_cases hkk : k < ts.length - j
    · have hjk : j + k < ts.length := by omega
      obtain ⟨g', cap', hv, hcell⟩ := row_cell r2 (j + k) hjk
      injection hv with hv1 _ _
      injection hv1 with hv2
      injection hv2 with hv3 _ _
      subst hv3
      obtain ⟨es2, hrun, hs2⟩ := delete_step (es := es') (c := clock) (w := w) (m := m) 0 H3.out HD.out H7.out j k hjk hs.out (lt_heap H2.out)
      generalize tmV (ts[j + k]'hjk) = X at hcell hrun
      have i1 : (0 : Int) ≤ (k : Int) := by omega
      have i2 : (k : Int) < ((ts.length - j : Nat) : Int) := by omega
      have t1 : decide ((k : Int) < ((ts.length - j : Nat) : Int)) = true := decide_eq_true i2
      clear r1 r2 c0 c1 f0 d2
      go_wp2_with fail
      exact ⟨⟨k + 1, es2, by omega, by push_cast; rfl, rfl, Lib.hid hs2⟩, by simp only [intOf]; omega⟩
    · have hke : k = ts.length - j := by omega
      have t1 : decide ((k : Int) < ((ts.length - j : Nat) : Int)) = false := decide_eq_false (by omega)
      have b5 : (0 : Int) ≤ (j : Int) := by omega
      have b6 : (j : Int) ≤ (cap : Int) := by omega
      clear r1 r2 c0 c1 f0 d1 d2
      go_wp2_with fail
      go_ret
      have hmin : min (max n 0) (ts.length : Int) = (j : Int) := hj.symm
      rw [hmin, Int.toNat_natCast]
      refine ⟨?_, cut_done hbase H1.out H2.out H3.out HR.out h5 h6 H7.out h8 hjl (by omega) hs.out⟩
      show Ending.returned (.int .i64 ((ts.length - j : Nat) : Int)) = _
      rw [Int.ofNat_sub hjl]
set_option maxHeartbeats 1600000 in
theorem cut_none {base p m : Nat} {ts : List Tm} {room : Int} {w : World} (n : Int) (hn : (ts.length : Int) ≤ max n 0) (h : DcAt base p m ts room w) (hd : Dist ts) (hbase : base ≤ w.heap.size) :
    Calls Try.prog 17 #[.pointer (some ⟨p, 0, none⟩), .int .i64 n] w fun e w' => e = .returned (.int .i64 0) ∧ DcAt base p m ts room w' ∧ DK base p m w w' := by
  obtain ⟨v, es, clock, h1, h2, h3, h4, h5, h6, h7, h8⟩ := h
  by_cases hnil : v = .slice none 0 0 ∧ ts = []
  · obtain ⟨rfl, rfl⟩ := hnil
    obtain ⟨c0, c1, c2, f0⟩ := cells3 h1
    have HR := Lib.hid h4; have H1 := Lib.hid h1; have H2 := Lib.hid h2; have H3 := Lib.hid h3; have H7 := Lib.hid h7
    have hn0 : (0 : Int) ≤ max n 0 := by omega
    have hmin : min (max n 0) (0 : Int) = (0 : Int) := by omega
    clear h1 h2 h3 h4 h7 c1 c2
    go_enter Try.func17, Try.ntmps17
    go_wp2_with fail
    go_loopw [24] (fun i wr => i = .int .i64 0 ∧ wr = w) (fun i _ => 0)
    · exact ⟨rfl, rfl⟩
    · obtain ⟨rfl, rfl⟩ := hrel
      go_wp2_with fail
      go_ret
      refine ⟨rfl, ⟨_, _, _, set_first H1.out _, (Below.heap_setCell _ ⟨p, 0, none⟩ _ m ?_).trans H2.out, H3.out, .inl ⟨rfl, rfl⟩, h5, h6, H7.out, h8⟩, ((Below.refl _ _).setCell (p := ⟨p, 0, none⟩) h5 _), fun k' o' hk hkp _ _ => (Below.heap_setCell _ ⟨p, 0, none⟩ _ k' hkp).trans hk⟩
      rintro rfl
      have e1 := H1.out
      rw [H2.out] at e1
      cases e1
  obtain ⟨g, cap, hv⟩ : ∃ g cap, v = .slice (some ⟨g, 0, none⟩) ts.length cap := by
    rcases h4 with h4 | ⟨g, cap, _, hv, _⟩
    · exact absurd h4 hnil
    · exact ⟨g, cap, hv⟩
  clear hnil
  subst hv
  have HR := Lib.hid h4
  obtain ⟨c0, c1, c2, f0⟩ := cells3 h1
  have H1 := Lib.hid h1; have H2 := Lib.hid h2; have H3 := Lib.hid h3; have H7 := Lib.hid h7
  have hcap : ts.length ≤ cap := by
    rcases h4 with ⟨hv, _⟩ | ⟨g', cap', cur, hv, _, _, hle, _⟩
    · cases hv
    · injection hv with _ _ hc
      omega
  have hmin : min (max n 0) (ts.length : Int) = (ts.length : Int) := by omega
  have b1 : (0 : Int) ≤ min (max n 0) (ts.length : Int) := by omega
  have b2 : min (max n 0) (ts.length : Int) ≤ (ts.length : Int) := by omega
  have b3 : min (max n 0) (ts.length : Int) ≤ (cap : Int) := by omega
  have b4 : (ts.length : Int) ≤ (cap : Int) := by omega
  clear h1 h2 h3 h4 h7 c1 c2
  go_enter Try.func17, Try.ntmps17
  go_wp2_with fail
  all_goals (
    go_loopw [24] (fun i wr => i = .int .i64 0 ∧ wr = w) (fun i _ => 0)
    · exact ⟨rfl, rfl⟩
    · obtain ⟨rfl, rfl⟩ := hrel
      have b5 : (0 : Int) ≤ (ts.length : Int) := by omega
      go_wp2_with fail
      go_ret
      have hd' := cut_done (j := ts.length) (k := 0) (es' := es) hbase H1.out H2.out H3.out HR.out h5 h6 H7.out h8 (Nat.le_refl _) rfl (by simp)
      rw [setMap_self H2.out, List.take_length] at hd'
      exact ⟨rfl, hd'⟩)
end Go.Proofs.Ytghimladdioajaa
