/- Contracts for the law ScanPlays: the scanner with an act's box; Blanks; the law's own list look-up. -/
import Derived.Test.YteicjmippeobpaaDoorScActs
import Derived.Test.YteicjmippeobpaaDoorScUntil
import Derived.Test.YteicjmippeobpaaDoorScIs
import Derived.Test.YteicjmippeobpaaDoorScReads
namespace Go.Proofs.YteicjmippeobpaaDoor
open Go Go.RowKit
set_option linter.unusedVariables false
theorem IntsAt.cls {w w' : World} {a : Option Addr} {n X : Nat} {zs : List Int} (h : IntsAt w a n zs) (hb : Below w.heap.size w w') (hX : w.heap.size ≤ X) : ClsAt zs a n X w' := by
  obtain ⟨h1, h2, h3⟩ := h
  refine ⟨h1, ?_⟩
  rcases h2 with rfl | ⟨b, off, h4, h5, h6⟩
  · exact .inl h1
  · exact .inr ⟨b, off, h4, by omega, Nat.lt_of_lt_of_le h5 hb.size, fun j hj => (hb.cell (p := ⟨b, off + j, none⟩) h5).trans (h6 j hj)⟩
/-- the scanner at a place, the row, what is older than both, and an act's box -/
def PS (l : List Int) (p X g cap : Nat) (a : Option Addr) (c B : Nat) (bv : Array Value) (w0 w : World) : Prop := St l p X g cap a c w0 w ∧ w.heap[B]? = some (.cells bv 48 (0, 0)) ∧ B ≠ X
theorem PS.below {l : List Int} {p X g cap : Nat} {a : Option Addr} {c B : Nat} {bv : Array Value} {w0 w w' : World} (h : PS l p X g cap a c B bv w0 w) (hb : Below w.heap.size w w') : PS l p X g cap a c B bv w0 w' :=
  ⟨h.1.below hb, (hb.block B (lt_of_block h.2.1)).trans h.2.1, h.2.2⟩
theorem PS.moved {l : List Int} {p q X g cap : Nat} {a : Option Addr} {c B : Nat} {bv : Array Value} {v : Value} {w0 w w' : World} {e : Ending} (h : PS l p X g cap a c B bv w0 w) (hm : Moved l q X g cap v w e w') : e = .returned v ∧ PS l q X g cap a c B bv w0 w' := by
  obtain ⟨h1, h2⟩ := h.1.moved hm
  exact ⟨h1, h2, (hm.2.2.2 B (lt_of_block h.2.1) h.2.2).trans h.2.1, h.2.2⟩
theorem PS.drewN {l : List Int} {p X g cap : Nat} {a : Option Addr} {c B : Nat} {bv : Array Value} {w0 w : World} (h : PS l p X g cap a c B bv w0 w) (n : Nat) : PS l p X g cap a c B bv w0 (w.drewN n) := h.below (below_drewN (Below.refl _ _) n)
theorem PS.cell {l : List Int} {p X g cap : Nat} {a : Option Addr} {c B : Nat} {bv : Array Value} {w0 w : World} (h : PS l p X g cap a c B bv w0 w) (j : Nat) (v : Value) (hj : bv[j]? = some v) : w.cell? ⟨B, j, none⟩ = some v := by
  rw [Lib.cell_of_heap h.2.1]; exact hj
theorem PS.row {l : List Int} {p X g cap : Nat} {a : Option Addr} {c B : Nat} {bv : Array Value} {w0 w : World} (h : PS l p X g cap a c B bv w0 w) (j : Nat) (hj : j < l.length) : ∃ gr, a = some ⟨gr, 0, none⟩ ∧ gr < w.heap.size ∧ w.cell? ⟨gr, j, none⟩ = some (.int .i64 (l[j]'hj)) := by
  rcases h.1.2.1 with ⟨rfl, _, _⟩ | ⟨gr, h1, h2, h3, h4⟩
  · simp at hj
  · exact ⟨gr, h1, h2.2, h2.1 j hj⟩
theorem PS.sign {l : List Int} {p X g cap : Nat} {a : Option Addr} {c B : Nat} {bv : Array Value} {w0 w : World} (h : PS l p X g cap a c B bv w0 w) (j : Nat) (hj : j < l.length) : SignP (l[j]'hj) := h.1.2.2.2.2.1 _ (List.getElem_mem hj)
set_option maxHeartbeats 1600000 in
theorem in_any (cs : List Int) (a : Option Addr) (n c X : Nat) (x : Int) (w : World) (h : ClsAt cs a n X w) (hbig : n ≤ 1000000) :
    Calls Tryd.prog 33 #[.slice a n c, .int .i64 x] w fun e w' => e = .returned (.bool (cs.contains x)) ∧ w' = w := by
  have HA := Lib.hid h
  have hnl1 : n ≤ cs.length := Nat.le_of_eq h.1
  have hnl2 : cs.length ≤ n := Nat.le_of_eq h.1.symm
  obtain ⟨R, hR⟩ : ∃ R, R = cs.contains x := ⟨_, rfl⟩
  have HR := Lib.hid hR
  rw [← hR]
  clear h hR
  go_enter Tryd.func33, Tryd.ntmps33
  go_wp2_with fail
  go_loop [9] (fun i => ∃ k : Nat, k ≤ n ∧ i = .int .i64 k ∧ Hid (∀ y ∈ cs.take k, y ≠ x)) (fun i => n - (intOf i).toNat)
  case atStart => exact ⟨0, by omega, rfl, Lib.hid (fun y hy => by simp at hy)⟩
  case round =>
    obtain ⟨k, hk, rfl, HK⟩ := hrel
    by_cases hlt : k < n
    · have hkL : k < cs.length := by omega
      obtain ⟨b, o, rfl, hcell⟩ : ∃ b o, a = some ⟨b, o, none⟩ ∧ w.cell? ⟨b, o + k, none⟩ = some (.int .i64 (cs[k]'hkL)) := by
        rcases HA.out.2 with h0 | ⟨b, o, h1, _, _, h2⟩
        · omega
        · refine ⟨b, o, h1, ?_⟩
          rw [h2 k hkL, List.getD_eq_getElem?_getD, List.getElem?_eq_getElem hkL]; rfl
      by_cases he : cs[k]'hkL = x
      · have HQ : Hid (true = R) := Lib.hid (by
          rw [HR.out]; symm; rw [List.contains_iff_mem, ← he]; exact List.getElem_mem hkL)
        rw [he] at hcell
        go_wp2_with fail
        go_ret
        exact ⟨by rw [← HQ.out]; rfl, rfl⟩
      · have HK2 : Hid (∀ y ∈ cs.take (k + 1), y ≠ x) := Lib.hid (fun y hy => by
          rw [List.take_succ_eq_append_getElem hkL] at hy
          rcases List.mem_append.1 hy with h | h
          · exact HK.out y h
          · obtain rfl := List.mem_singleton.1 h; exact he)
        generalize cs[k]'hkL = y at hcell he
        have hne : (y == x) = false := beq_eq_false_iff_ne.mpr he
        clear he
        go_wp2_with fail
        go_round
        case rel => exact ⟨k + 1, by omega, by go_num, HK2⟩
        case measure => simp [intOf]; omega
    · have HQ : Hid (false = R) := Lib.hid (by
        have hK := HK.out
        rw [List.take_of_length_le (by omega)] at hK
        rw [HR.out]; symm
        rw [Bool.eq_false_iff]
        intro hc
        exact hK x (List.contains_iff_mem.1 hc) rfl)
      go_wp2_with fail
      go_ret
      exact ⟨by rw [← HQ.out]; rfl, rfl⟩
theorem enc_class0 {n : Int} (h : classV n = 0) : (enc n).length = 1 := by
  have h1 : 0 ≤ n ∧ n ≤ 127 := by unfold classV at h; (repeat' split at h) <;> omega
  exact enc_len (.one h1.1 h1.2)
theorem text_class0 (L : List Int) (h : ∀ n ∈ L, classV n = 0) : (textB L).length = L.length := by
  induction L with
  | nil => rfl
  | cons n t ih =>
    rw [textB_cons, List.length_append, enc_class0 (h n List.mem_cons_self), ih (fun x hx => h x (List.mem_cons_of_mem _ hx)), List.length_cons]
    omega
theorem runT_size (l : List Int) (p : Nat) (hp : p ≤ l.length) : (runT [0] l p).size = runN [0] l p := by
  have hle := runN_le [0] l p hp
  have e : (runT [0] l p).size = (textB ((l.drop p).take (runN [0] l p))).length := rfl
  rw [e, text_class0]
  · rw [List.length_take, List.length_drop]; omega
  · intro n hn
    obtain ⟨i, hi, rfl⟩ := List.getElem_of_mem hn
    rw [List.length_take, List.length_drop] at hi
    have := runN_in (cs := [0]) (l := l) (p := p) (q := p + i) (by omega) (by omega) (by omega)
    rw [List.getElem_take, List.getElem_drop]
    simpa using this
set_option maxHeartbeats 1600000 in
theorem blanks_any (l : List Int) (p X g cap : Nat) (w : World) (h : ScW l p X g cap w) (hl : ∀ n ∈ l, SignP n) (hb : l.length ≤ 1000000) :
    Calls Tryd.prog 32 #[.pointer (some ⟨X, 0, none⟩)] w (Moved l (p + runN [0] l p) X g cap (.int .i64 (runN [0] l p)) w) := by
  have hp := h.2.2.2.2.1
  have HS := Lib.hid (h.keep ((Below.refl w.heap.size w).alloc (Nat.le_refl _) (.cells #[.int .i64 0] 3)))
  have hX := h.lt
  have HC : Hid (ClsAt [0] (some ⟨w.heap.size, 0, none⟩) 1 X (w.alloc (.cells #[.int .i64 0] 3))) := Lib.hid ⟨rfl, .inr ⟨w.heap.size, 0, rfl, by omega, by simp, fun j hj => by
    obtain rfl : j = 0 := by simpa using hj
    rw [Lib.cell_of_heap (heap_alloc_new _ _)]; rfl⟩⟩
  have HSK := Lib.hid (SK.below ((Below.refl w.heap.size w).alloc (Nat.le_refl _) (.cells #[.int .i64 0] 3)) (Nat.le_of_lt hX))
  have HT := Lib.hid (runT_size l p hp)
  have hle := runN_le [0] l p hp
  have HL := Lib.hid hl
  clear h hl
  go_enter Tryd.func32, Tryd.ntmps32
  go_wp2_with fail
  refine (run_any [0] l p X g cap _ 1 1 _ HS.out HL.out hb HC.out (by omega)).mono ?_
  rintro e w1 ⟨rfl, h1, h2⟩
  have HF := Lib.hid (And.intro h1 (HSK.out.trans h2))
  clear h1 h2
  obtain ⟨T, hT⟩ : ∃ T, T = runT [0] l p := ⟨_, rfl⟩
  rw [← hT] at HT ⊢
  clear hT
  go_wp2_with fail
  go_ret
  exact ⟨by rw [HT.out]; rfl, HF.out.1, HF.out.2⟩
/-- the row's part, as a slice -/
theorem slice_mid (l : List Int) (a : Option Addr) (c X p q : Nat) (w0 : World) (h : SgAt l a c X w0) (hpq : p ≤ q) (hq : q ≤ l.length) :
    ∃ a' c', (∀ w : World, (Instr.slice 23 (.slice a l.length c) (some (.int .i64 p)) (some (.int .i64 q)) none).run Tryd.prog w = .ok (.slice a' (q - p) c') w) ∧ ∀ w, SgAt l a c X w → ClsAt ((l.drop p).take (q - p)) a' (q - p) X w := by
  rcases h with ⟨rfl, rfl, rfl⟩ | ⟨g, rfl, hR, hc, hg⟩
  · obtain rfl : q = 0 := by simpa using hq
    obtain rfl : p = 0 := by omega
    refine ⟨none, 0, fun w => ?_, fun w _ => ⟨by simp, .inl (by simp)⟩⟩
    go_simp
  · have hqc : q ≤ c := by omega
    refine ⟨some (partA g c p), c - p, fun w => ?_, fun w hw => ⟨by rw [List.length_take, List.length_drop]; omega, ?_⟩⟩
    · rw [← partA_some]
      go_simp
    · by_cases hpl : q - p = 0
      · exact .inl hpl
      · refine .inr ⟨g, p, ?_, by omega, ?_, fun j hj => ?_⟩
        · unfold partA; rw [if_neg (by omega)]
        · rcases hw with ⟨_, h2, _⟩ | ⟨g', h1, h2, _⟩
          · cases h2
          · injection h1 with h1; injection h1 with h1; subst h1; exact h2.2
        · rcases hw with ⟨_, h2, _⟩ | ⟨g', h1, h2, _⟩
          · cases h2
          · injection h1 with h1; injection h1 with h1; subst h1
            rw [List.length_take, List.length_drop] at hj
            rw [h2.1 (p + j) (by omega), List.getD_eq_getElem?_getD, List.getElem?_take_of_lt (by omega), List.getElem?_drop, List.getElem?_eq_getElem (by omega)]
            rfl
theorem tBytes_eq {t : ByteArray} {tl u : List Int} (ht : Read t.data.toList tl []) (hu : ∀ n ∈ u, SignP n) : tBytes u = t ↔ u = tl := by
  constructor
  · intro h
    have : Read t.data.toList u [] := by
      rw [← h]
      exact ⟨by rw [List.append_nil]; rfl, hu, noSign_nil⟩
    exact (read_one this ht).1
  · rintro rfl
    have := tBytes_read ht
    rwa [List.drop_zero] at this
end Go.Proofs.YteicjmippeobpaaDoor
