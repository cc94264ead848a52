/- The contract of Scanner.Is: whether a text follows. -/
import Derived.Test.YtbchkhjkajagfaaGreatDoorScEscape
namespace Go.Proofs.YtbchkhjkajagfaaGreatDoor
open Go Go.RowKit
set_option maxRecDepth 100000
set_option linter.unusedVariables false
theorem ScW.same {l : List Int} {p X g cap : Nat} {w w' : World} (h : ScW l p X g cap w) (hX : w'.heap[X]? = w.heap[X]?) (hg : w'.heap[g]? = w.heap[g]?) (hs : w.heap.size ≤ w'.heap.size) : ScW l p X g cap w' :=
  ⟨hX.trans h.1, h.2.1, fun j hj => (cell_same hg).trans (h.2.2.1 j hj), h.2.2.2.1, h.2.2.2.2.1, Nat.lt_of_lt_of_le h.2.2.2.2.2 hs⟩
/-- a scanner beside an iterator over a text -/
def IW (s : ByteArray) (I q : Nat) (l : List Int) (p X g cap : Nat) (w wr : World) : Prop :=
  ScW l p X g cap wr ∧ SK X w wr ∧ wr.heap[I]? = some (.stringIter s q) ∧ w.heap.size ≤ I ∧ X < I ∧ g < I
theorem IW.next {s : ByteArray} {I q : Nat} {l : List Int} {p X g cap : Nat} {w wr : World} (h : IW s I q l p X g cap w wr) (q' : Nat) : IW s I q' l p X g cap w (wr.iterAt I s q') := by
  obtain ⟨h1, h2, h3, h4, h5, h6⟩ := h
  refine ⟨h1.same (Lib.iterAt_other _ _ _ _ _ (by omega)) (Lib.iterAt_other _ _ _ _ _ (by omega)) (by rw [Lib.iterAt_size]; exact Nat.le_refl _), ⟨Lib.below_iterAt h2.1 (by omega) s q', fun k hk hne => (Lib.iterAt_other _ _ _ _ _ (by omega)).trans (h2.2 k hk hne)⟩, Lib.iterAt_heap wr I s q q' h3, h4, h5, h6⟩
theorem IW.moved {s : ByteArray} {I q : Nat} {l : List Int} {p p' X g cap : Nat} {w wr w' : World} {v : Value} {e : Ending} (h : IW s I q l p X g cap w wr) (hm : Moved l p' X g cap v wr e w') : e = .returned v ∧ IW s I q l p' X g cap w w' := by
  obtain ⟨h1, h2, h3, h4, h5, h6⟩ := h
  obtain ⟨m1, m2, m3⟩ := hm
  exact ⟨m1, m2, h2.trans m3, (m3.2 I (Array.getElem?_eq_some_iff.1 h3).1 (by omega)).trans h3, h4, h5, h6⟩
theorem take_more {t L : List Int} {k : Nat} (hk : k < t.length) (hL : k < L.length) (h : L.take k = t.take k) (he : L[k]'hL = t[k]'hk) : L.take (k + 1) = t.take (k + 1) := by
  rw [List.take_succ_eq_append_getElem hk, List.take_succ_eq_append_getElem hL, h, he]
theorem take_ne {t L : List Int} {k : Nat} (hk : k < t.length) (hL : k < L.length) (he : ¬ L[k]'hL = t[k]'hk) : ¬ L.take t.length = t := by
  intro h
  apply he
  have h1 : (L.take t.length)[k]? = t[k]? := by rw [h]
  rw [List.getElem?_take_of_lt hk, List.getElem?_eq_getElem hL, List.getElem?_eq_getElem hk] at h1
  exact Option.some.inj h1
theorem take_short {t L : List Int} {k : Nat} (hk : k < t.length) (hL : L.length = k) : ¬ L.take t.length = t := by
  intro h
  have := congrArg List.length h
  rw [List.length_take] at this
  omega
set_option maxHeartbeats 6400000 in
theorem is_any (s : ByteArray) (t l : List Int) (p X g cap : Nat) (w : World) (ht : Read s.data.toList t []) (hs : s.size ≤ 1048576) (h : ScW l p X g cap w) (hl : ∀ n ∈ l, SignP n) (hb : l.length ≤ 1000000) :
    Calls Tryz.prog 58 #[.pointer (some ⟨X, 0, none⟩), .string s] w
      (Moved l (if (l.drop p).take t.length = t then p + t.length else p) X g cap (.bool (decide ((l.drop p).take t.length = t))) w) := by
  have HR := Lib.hid ht
  have HL := Lib.hid hl
  have hp := h.2.2.2.2.1
  have htl : t.length ≤ s.size := read_len ht
  obtain ⟨c0, c1, f1⟩ := h.cells
  have HQ0 : Hid (IW s w.heap.size 0 l p X g cap w (w.iter s 0)) := Lib.hid (by
    have hb0 : Below w.heap.size w (w.iter s 0) := (Below.refl _ w).alloc (Nat.le_refl _) _
    exact ⟨h.keep hb0, SK.below hb0 (Nat.le_of_lt h.lt), World.iter_heap w s 0, Nat.le_refl _, h.lt, h.2.2.2.2.2⟩)
  obtain ⟨DD, hDD⟩ : ∃ D : Prop, D = ((l.drop p).take t.length = t) := ⟨_, rfl⟩
  have HDD := Lib.hid hDD
  obtain ⟨PP, hPP⟩ : ∃ PP, PP = (if (l.drop p).take t.length = t then p + t.length else p) := ⟨_, rfl⟩
  obtain ⟨BB, hBB⟩ : ∃ BB, BB = decide ((l.drop p).take t.length = t) := ⟨_, rfl⟩
  rw [← hPP, ← hBB]
  have HPB := Lib.hid (And.intro hPP hBB)
  have HPL : Hid ((l.drop p).length = l.length - p) := Lib.hid (by rw [List.length_drop])
  clear h ht hl hDD c0 f1 hPP hBB
  generalize hIb : w.heap.size = I at *
  go_enter Tryz.func58, Tryz.ntmps58
  go_wp2_with fail
  go_loopg [] t.length (fun gn wr => ∃ k q : Nat, k + gn = t.length ∧ p + k ≤ l.length ∧ Hid (q = (textB (t.take k)).length) ∧ Hid ((l.drop p).take k = t.take k) ∧ Hid (IW s I q l (p + k) X g cap w wr))
  case atStart => exact ⟨0, 0, by omega, by omega, Lib.hid rfl, Lib.hid rfl, HQ0⟩
  case round =>
    obtain ⟨k, q, hk, hpk, HQ, HT, HW⟩ := hrel
    clear HQ0
    have hit := HW.out.2.2.1
    by_cases hlt : k < t.length
    · have hq := (read_here HR.out hlt).2.2
      rw [← HQ.out] at hq
      have hnx : ∀ ty, (Instr.next (.pointer (some ⟨I, 0, none⟩)) true ty).run Tryz.prog wr = _ := fun ty => Lib.run_next_any_at wr I s q ty hit hq
      rw [decode_here HR.out hlt HQ.out] at hnx
      have hn := (read_here HR.out hlt).1
      have hn0 : (((t[k]'hlt).toNat : Nat) : Int) = t[k]'hlt := by unfold SignP at hn; omega
      rw [hn0] at hnx
      have HN : Hid (q + (enc (t[k]'hlt)).length = (textB (t.take (k + 1))).length) := Lib.hid (by rw [read_next HR.out hlt, ← HQ.out])
      have HX := Lib.hid (HW.out.next (q + (enc (t[k]'hlt)).length))
      have hn1 : 0 ≤ t[k]'hlt ∧ t[k]'hlt ≤ 1114111 := by unfold SignP at hn; omega
      clear hn hn0 hit HW HQ hq
      generalize q + (enc (t[k]'hlt)).length = q' at hnx HN HX
      obtain ⟨n, hnn⟩ : ∃ n, n = t[k]'hlt := ⟨_, rfl⟩
      have HNN := Lib.hid hnn
      rw [← hnn] at hnx hn1
      clear hnn
      obtain ⟨W1, hW1⟩ : ∃ W1, W1 = wr.iterAt I s q' := ⟨_, rfl⟩
      rw [← hW1] at hnx HX
      clear hW1
      obtain ⟨m0, m1⟩ := hn1
      by_cases hpl : p + k < l.length
      · have HNX := Lib.hid (next_yes l (p + k) X g cap _ HX.out.1 hpl (by omega) (HL.out _ (List.getElem_mem hpl)))
        have hkL : k < (l.drop p).length := by rw [HPL.out]; omega
        have HE : Hid ((l.drop p)[k]'hkL = l[p + k]'hpl) := Lib.hid (by rw [List.getElem_drop])
        obtain ⟨m, hm⟩ : ∃ m, m = l[p + k]'hpl := ⟨_, rfl⟩
        rw [← hm] at HNX HE
        clear hm
        by_cases he : m = n
        · have HT2 := Lib.hid (take_more hlt hkL HT.out (by rw [HE.out, he, HNN.out]))
          subst he
          go_wp2_with fail
          refine HNX.out.mono ?_
          intro e w2 hm
          obtain ⟨rfl, hw2⟩ := HX.out.moved hm
          have HW2 := Lib.hid hw2
          clear hm hw2 HNX hnx
          go_wp2_with fail
          go_roundg (gk - 1)
          case measure => omega
          case rel => exact ⟨k + 1, q', by omega, by omega, HN, HT2, HW2⟩
        · have HD : Hid (¬ DD) := Lib.hid (by rw [HDD.out]; exact take_ne hlt hkL (by rw [HE.out, ← HNN.out]; exact he))
          have ht : (m == n) = false := beq_eq_false_iff_ne.mpr he
          clear he
          go_wp2_with fail
          refine HNX.out.mono ?_
          intro e w2 hm
          obtain ⟨rfl, hw2⟩ := HX.out.moved hm
          have HW2 := Lib.hid hw2
          clear hm hw2 HNX hnx
          obtain ⟨d0, d1, f1⟩ := HW2.out.1.cells
          clear d0
          have HP := Lib.hid (HW2.out.1.put p (by omega))
          have HK := Lib.hid (HW2.out.2.1.trans (SK.set (X := X) w2 1 (.int .i64 (p : Int))))
          go_wp2_with fail
          go_ret
          have h1 := HD.out
          rw [HDD.out] at h1
          rw [HPB.out.1, HPB.out.2, if_neg h1, decide_eq_false h1]
          exact ⟨rfl, HP.out, HK.out⟩
      · have hpe : p + k = l.length := by omega
        have HD : Hid (¬ DD) := Lib.hid (by rw [HDD.out]; exact take_short hlt (by rw [HPL.out]; omega))
        have HNX := Lib.hid (next_no l (p + k) X g cap _ HX.out.1 hpe)
        have ht : ((-1 : Int) == n) = false := beq_eq_false_iff_ne.mpr (by omega)
        clear hpe
        go_wp2_with fail
        refine HNX.out.mono ?_
        intro e w2 hm
        obtain ⟨rfl, hw2⟩ := HX.out.moved hm
        have HW2 := Lib.hid hw2
        clear hm hw2 HNX hnx
        obtain ⟨d0, d1, f1⟩ := HW2.out.1.cells
        clear d0
        have HP := Lib.hid (HW2.out.1.put p (by omega))
        have HK := Lib.hid (HW2.out.2.1.trans (SK.set (X := X) w2 1 (.int .i64 (p : Int))))
        go_wp2_with fail
        go_ret
        have h1 := HD.out
        rw [HDD.out] at h1
        rw [HPB.out.1, HPB.out.2, if_neg h1, decide_eq_false h1]
        exact ⟨rfl, HP.out, HK.out⟩
    · obtain rfl : k = t.length := by omega
      have HD : Hid DD := Lib.hid (by rw [HDD.out, HT.out, List.take_length])
      have hqe : q = s.size := by
        have h1 := HR.out.1
        have h2 := HQ.out
        rw [List.take_length] at h2
        rw [List.append_nil] at h1
        rw [h2, ← h1]
        rfl
      have hnx : ∀ ty, (Instr.next (.pointer (some ⟨I, 0, none⟩)) true ty).run Tryz.prog wr = _ := fun ty => Lib.run_next_end_at wr I s q ty hit (by omega)
      go_wp2_with fail
      go_ret
      have h1 := HD.out
      rw [HDD.out] at h1
      rw [HPB.out.1, HPB.out.2, if_pos h1, decide_eq_true h1]
      exact ⟨rfl, HW.out.1, HW.out.2.1⟩
end Go.Proofs.YtbchkhjkajagfaaGreatDoor
