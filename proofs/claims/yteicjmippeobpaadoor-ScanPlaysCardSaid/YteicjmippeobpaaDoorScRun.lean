/- The contract of package scan's Run over this seat's program: the signs of some classes that follow. -/
import Derived.Test.YteicjmippeobpaaDoorScNew
import Derived.Laws.Cover4
import Derived.Deep.LoopGhost
namespace Go.Proofs.YteicjmippeobpaaDoor
open Go Go.RowKit
set_option linter.unusedVariables false
theorem byte_eq (a : Nat) (x : Int) (h : (a : Int) = x) : UInt8.ofNat a = x.toNat.toUInt8 := by subst h; rfl
theorem encode_enc {n : Int} (h : SignP n) : Utf8.encode n = ⟨(enc n).toArray⟩ := by
  have hv : Utf8.valid n = true := by unfold SignP at h; unfold Utf8.valid; simp; omega
  have hn0 : 0 ≤ n := by unfold SignP at h; omega
  obtain ⟨m, rfl⟩ := Int.eq_ofNat_of_zero_le hn0
  obtain ⟨k, hk⟩ := wide_of h
  unfold Utf8.encode enc Lib.encodeRune
  simp only [hv, if_true, Int.toNat_natCast]
  cases hk with
  | one a b =>
    rw [Lib.encodeRuneZ_one a b, if_pos (by omega), byte_eq m m rfl]
    rfl
  | two a b =>
    rw [Lib.encodeRuneZ_two a b, if_neg (by omega), if_pos (by omega), byte_eq (192 + m / 64) (192 + (m : Int) / 64) (by omega), byte_eq (128 + m % 64) (128 + (m : Int) % 64) (by omega)]
    rfl
  | three a =>
    rw [Lib.encodeRuneZ_three a, if_neg (by omega), if_neg (by omega), if_pos (by omega), byte_eq (224 + m / 4096) (224 + (m : Int) / 4096) (by omega), byte_eq (128 + m / 64 % 64) (128 + (m : Int) / 64 % 64) (by omega), byte_eq (128 + m % 64) (128 + (m : Int) % 64) (by omega)]
    rfl
  | four a b =>
    rw [Lib.encodeRuneZ_four a b, if_neg (by omega), if_neg (by omega), if_neg (by omega), byte_eq (240 + m / 262144) (240 + (m : Int) / 262144) (by omega), byte_eq (128 + m / 4096 % 64) (128 + (m : Int) / 4096 % 64) (by omega), byte_eq (128 + m / 64 % 64) (128 + (m : Int) / 64 % 64) (by omega), byte_eq (128 + m % 64) (128 + (m : Int) % 64) (by omega)]
    rfl
theorem runes_text (l : List Int) (h : ∀ n ∈ l, SignP n) : runesBytes l = ⟨(textB l).toArray⟩ := by
  suffices hh : ∀ (l : List Int) (b : List UInt8), (∀ n ∈ l, SignP n) → l.foldl (fun r n => r ++ Utf8.encode n) (⟨b.toArray⟩ : ByteArray) = ⟨(b ++ textB l).toArray⟩ by
    have := hh l [] h
    unfold runesBytes
    rw [show ByteArray.empty = (⟨([] : List UInt8).toArray⟩ : ByteArray) from rfl, this]; rfl
  intro l
  induction l with
  | nil => intro b _; simp [textB]
  | cons n l ih =>
    intro b hl
    rw [List.foldl_cons, encode_enc (hl n List.mem_cons_self)]
    have e : (⟨b.toArray⟩ : ByteArray) ++ ⟨(enc n).toArray⟩ = ⟨(b ++ enc n).toArray⟩ := bytes_eq (by rw [join_data])
    rw [e, ih _ (fun x hx => hl x (List.mem_cons_of_mem _ hx)), textB_cons, List.append_assoc]
/-- where a part of a row begins, as the model has it -/
def partA (g cap p : Nat) : Addr := if cap = p then ⟨g, 0, none⟩ else ⟨g, p, none⟩
theorem partA_some (g cap p : Nat) : (if cap = p then some (⟨g, 0, none⟩ : Addr) else some ⟨g, p, none⟩) = some (partA g cap p) := by unfold partA; split <;> rfl
theorem partA_add (g cap p j : Nat) (h : p + j < cap) : (partA g cap p).add j = ⟨g, p + j, none⟩ := by
  unfold partA
  rw [if_neg (by omega)]
  unfold Addr.add
  split
  · subst_vars; rfl
  · rfl
theorem slice_run (g n cap p q : Nat) (hpq : p ≤ q) (hq : q ≤ cap) (w : World) :
    (Instr.slice 71 (.slice (some ⟨g, 0, none⟩) n cap) (some (.int .i64 p)) (some (.int .i64 q)) none).run Tryd.prog w = .ok (.slice (some (partA g cap p)) (q - p) (cap - p)) w := by
  rw [← partA_some]
  go_simp
/-- the text of a part -/
theorem part_text {l : List Int} {P X g cap : Nat} {w : World} (h : ScW l P X g cap w) (hl : ∀ n ∈ l, SignP n) (p q C : Nat) (hpq : p ≤ q) (hq : q ≤ l.length) :
    (convert 71 9 (.slice (some (partA g cap p)) (q - p) C)).run Tryd.prog w = .ok (.string ⟨(textB ((l.drop p).take (q - p))).toArray⟩) w := by
  have hc := h.2.2.1
  have hcap := h.2.2.2.1
  have hz : ((l.drop p).take (q - p)).length = q - p := by rw [List.length_take, List.length_drop]; omega
  have := run_convert_runes (P := Tryd.prog) w 71 9 21 (partA g cap p) (q - p) C ((l.drop p).take (q - p)) (by omega) Tryd.underlying71 Tryd.underlying21 Tryd.underlying9 (by
    intro j hj
    rw [hz] at hj
    rw [partA_add g cap p j (by omega), hc (p + j) (by omega)]
    rw [List.getD_eq_getElem?_getD, List.getElem?_take_of_lt hj, List.getElem?_drop, List.getElem?_eq_getElem (by omega)]
    rfl)
  rw [this, List.take_of_length_le (by omega), runes_text _ (fun n hn => hl n (List.mem_of_mem_drop (List.mem_of_mem_take hn)))]
/-- a slice of classes that lies elsewhere than the scanner -/
def ClsAt (cs : List Int) (a : Option Addr) (n X : Nat) (w : World) : Prop :=
  n = cs.length ∧ (n = 0 ∨ ∃ b off, a = some ⟨b, off, none⟩ ∧ b ≠ X ∧ b < w.heap.size ∧ ∀ j, j < cs.length → w.cell? ⟨b, off + j, none⟩ = some (.int .i64 (cs.getD j 0)))
theorem ClsAt.below {cs : List Int} {a : Option Addr} {n X : Nat} {w w' : World} (h : ClsAt cs a n X w) (hb : Below w.heap.size w w') : ClsAt cs a n X w' := by
  obtain ⟨h1, h2 | ⟨b, off, h2, h3, h4, h5⟩⟩ := h
  · exact ⟨h1, .inl h2⟩
  · exact ⟨h1, .inr ⟨b, off, h2, h3, Nat.lt_of_lt_of_le h4 hb.size, fun j hj => (cell_same (hb.block b h4)).trans (h5 j hj)⟩⟩
theorem ClsAt.sk {cs : List Int} {a : Option Addr} {n X : Nat} {w w' : World} (h : ClsAt cs a n X w) (hb : SK X w w') : ClsAt cs a n X w' := by
  obtain ⟨h1, h2 | ⟨b, off, h2, h3, h4, h5⟩⟩ := h
  · exact ⟨h1, .inl h2⟩
  · exact ⟨h1, .inr ⟨b, off, h2, h3, Nat.lt_of_lt_of_le h4 hb.1.size, fun j hj => (cell_same (hb.2 b h4 h3)).trans (h5 j hj)⟩⟩
theorem contains_any (cs : List Int) (a : Option Addr) (n c X : Nat) (x : Int) (w : World) (h : ClsAt cs a n X w) (hbig : n ≤ 9223372036854775807) :
    Calls Tryd.prog 46 #[.slice a n c, .int .i64 x] w fun e w' => e = .returned (.bool (cs.contains x)) ∧ w' = w := by
  obtain ⟨h1, h2⟩ := h
  by_cases h0 : n = 0
  · have : cs = [] := List.eq_nil_of_length_eq_zero (by omega)
    subst h0 this
    exact Tryd.slices_Contains_int_empty a c x w
  · rcases h2 with h2 | ⟨b, off, rfl, _, _, h5⟩
    · exact absurd h2 h0
    · have := Tryd.slices_Contains_int b off n c cs x w (by omega) hbig h5
      rw [List.take_of_length_le (by omega)] at this
      exact this
/-- how many signs of some classes stand ahead -/
def tw (cs : List Int) : List Int → Nat
  | [] => 0
  | n :: t => if cs.contains (classV n) then tw cs t + 1 else 0
theorem tw_le (cs l : List Int) : tw cs l ≤ l.length := by
  induction l with
  | nil => simp [tw]
  | cons n t ih => unfold tw; split <;> simp <;> omega
theorem tw_in (cs l : List Int) : ∀ q (h : q < l.length), q < tw cs l → cs.contains (classV (l[q]'h)) = true := by
  induction l with
  | nil => intro q h; simp at h
  | cons n t ih =>
    intro q h hq
    unfold tw at hq
    split at hq
    · rename_i hn
      cases q with
      | zero => exact hn
      | succ q => exact ih q (by simpa using h) (by omega)
    · omega
theorem tw_end (cs l : List Int) : ∀ (h : tw cs l < l.length), cs.contains (classV (l[tw cs l]'h)) = false := by
  induction l with
  | nil => intro h; simp at h
  | cons n t ih =>
    intro h
    by_cases hn : cs.contains (classV n) = true
    · have e : tw cs (n :: t) = tw cs t + 1 := by conv => lhs; unfold tw
                                                  rw [if_pos hn]
      have h2 : tw cs t < t.length := by rw [e] at h; simpa using h
      have := ih h2
      simp only [e, List.getElem_cons_succ]
      exact this
    · have e : tw cs (n :: t) = 0 := by conv => lhs; unfold tw
                                        rw [if_neg hn]
      simp only [e, List.getElem_cons_zero]
      simpa using hn
/-- how many signs of some classes follow -/
def runN (cs l : List Int) (p : Nat) : Nat := tw cs (l.drop p)
theorem runN_le (cs l : List Int) (p : Nat) (hp : p ≤ l.length) : p + runN cs l p ≤ l.length := by
  have := tw_le cs (l.drop p)
  rw [List.length_drop] at this
  unfold runN; omega
theorem runN_in {cs l : List Int} {p q : Nat} (h1 : p ≤ q) (h2 : q < p + runN cs l p) (h3 : q < l.length) : cs.contains (classV (l[q]'h3)) = true := by
  have := tw_in cs (l.drop p) (q - p) (by rw [List.length_drop]; omega) (by unfold runN at h2; omega)
  rw [List.getElem_drop] at this
  have e : p + (q - p) = q := by omega
  simp only [e] at this
  exact this
theorem runN_end {cs l : List Int} {p : Nat} (h3 : p + runN cs l p < l.length) : cs.contains (classV (l[p + runN cs l p]'h3)) = false := by
  have := tw_end cs (l.drop p) (by rw [List.length_drop]; unfold runN at h3; omega)
  rw [List.getElem_drop] at this
  exact this
def runT (cs l : List Int) (p : Nat) : ByteArray := ⟨(textB ((l.drop p).take (runN cs l p))).toArray⟩
set_option maxHeartbeats 1600000 in
theorem run_any (cs l : List Int) (p X g cap : Nat) (a : Option Addr) (n c : Nat) (w : World) (h : ScW l p X g cap w) (hl : ∀ n ∈ l, SignP n) (hb : l.length ≤ 1000000) (hcs : ClsAt cs a n X w) (hn : n ≤ 1000000) :
    Calls Tryd.prog 27 #[.pointer (some ⟨X, 0, none⟩), .slice a n c] w (Moved l (p + runN cs l p) X g cap (.string (runT cs l p)) w) := by
  have HS := Lib.hid h
  have HC := Lib.hid hcs
  have HL := Lib.hid hl
  obtain ⟨c0, c1, f1⟩ := h.cells
  have hp := h.2.2.2.2.1
  have hX := h.lt
  have HN := Lib.hid (runN_le cs l p hp)
  obtain ⟨N, hN⟩ : ∃ N, N = runN cs l p := ⟨_, rfl⟩
  have HNN := Lib.hid hN
  obtain ⟨T, hT⟩ : ∃ T, T = runT cs l p := ⟨_, rfl⟩
  have HT := Lib.hid hT
  rw [← hN, ← hT]
  rw [← hN] at HN
  have hNl := HN.out
  clear h hl hcs hN hT c0 f1
  go_enter Tryd.func27, Tryd.ntmps27
  go_wp2_with fail
  clear c1
  go_loopg [] N (fun gn wr => ∃ q : Nat, q + gn = p + N ∧ p ≤ q ∧ Hid (ScW l q X g cap wr) ∧ Hid (ClsAt cs a n X wr) ∧ Hid (SK X w wr))
  case atStart => exact ⟨p, by omega, by omega, HS, HC, Lib.hid (SK.refl _ _)⟩
  case round =>
    obtain ⟨q, hq, hpq, hS, hC, hK⟩ := hrel
    clear HS HC
    by_cases hlt : q < l.length
    · go_wp2_with fail
      refine (end_no l q X g cap _ hS.out hlt).mono ?_
      rintro e w1 ⟨rfl, hb1⟩
      have hX1 := hS.out.lt
      replace hK := Lib.hid (hK.out.trans (SK.below hb1 (by omega)))
      replace hS := Lib.hid (hS.out.keep hb1)
      replace hC := Lib.hid (hC.out.below hb1)
      clear hb1
      go_wp2_with fail
      refine (peek_yes l q X g cap _ hS.out hlt (by omega)).mono ?_
      rintro e w2 ⟨rfl, hb1⟩
      replace hX1 := hS.out.lt
      replace hK := Lib.hid (hK.out.trans (SK.below hb1 (by omega)))
      replace hS := Lib.hid (hS.out.keep hb1)
      replace hC := Lib.hid (hC.out.below hb1)
      clear hb1
      have hsn := HL.out _ (List.getElem_mem hlt)
      have hn0 : -2147483648 ≤ l[q] ∧ l[q] ≤ 2147483647 := by unfold SignP at hsn; omega
      clear hsn
      by_cases hin : q < p + N
      · have HI := Lib.hid (runN_in hpq (by rw [← HNN.out]; exact hin) hlt)
        generalize l[q] = m at HI hn0 ⊢
        obtain ⟨m0, m1⟩ := hn0
        go_wp2_with fail
        refine (class_any m _ m0 m1).mono ?_
        rintro e w' ⟨rfl, rfl⟩
        go_wp2_with fail
        refine (contains_any cs a n c X _ _ hC.out (by omega)).mono ?_
        rintro e w' ⟨rfl, rfl⟩
        rw [HI.out]
        obtain ⟨d0, d1, f1⟩ := hS.out.cells
        clear d0
        go_wp2_with fail
        have e1 : ((q : Int) + 1) = ((q + 1 : Nat) : Int) := by omega
        rw [e1]
        have hS2 := Lib.hid (hS.out.put (q + 1) (by omega))
        have hC2 := Lib.hid (hC.out.sk (SK.set (X := X) _ 1 (.int .i64 ((q + 1 : Nat) : Int))))
        have hK2 := Lib.hid (hK.out.trans (SK.set (X := X) _ 1 (.int .i64 ((q + 1 : Nat) : Int))))
        go_roundg (gk - 1)
        case measure => omega
        case rel => exact ⟨q + 1, by omega, by omega, hS2, hC2, hK2⟩
      · have HQ : Hid (q = p + N) := Lib.hid (by omega)
        have hqp : p ≤ q := hpq
        have hql : q ≤ l.length := by omega
        have HI : Hid (cs.contains (classV (l[q]'hlt)) = false) := by
          have h1 := HQ.out
          have h2 := HNN.out
          subst h1 h2
          exact Lib.hid (runN_end hlt)
        generalize l[q] = m at HI hn0 ⊢
        obtain ⟨m0, m1⟩ := hn0
        go_wp2_with fail
        refine (class_any m _ m0 m1).mono ?_
        rintro e w' ⟨rfl, rfl⟩
        go_wp2_with fail
        refine (contains_any cs a n c X _ _ hC.out (by omega)).mono ?_
        rintro e w' ⟨rfl, rfl⟩
        rw [HI.out]
        obtain ⟨d0, d1, f1⟩ := hS.out.cells
        have hsl := slice_run g l.length cap p q hqp (by have := hS.out.2.2.2.1; omega)
        have HT2 : Hid (⟨(textB ((l.drop p).take (q - p))).toArray⟩ = T) := Lib.hid (by rw [HT.out, HQ.out, Nat.add_sub_cancel_left, HNN.out]; rfl)
        have hcv : ∀ n, (convert 71 9 (.slice (some (partA g cap p)) (q - p) (cap - p))).run Tryd.prog (w'.drewN n) = .ok (.string T) (w'.drewN n) := by
          intro n
          have hS2 : ScW l q X g cap (w'.drewN n) := hS.out
          have := part_text hS2 HL.out p q (cap - p) hqp hql
          rw [HT2.out] at this
          exact this
        go_wp2_with fail
        go_quiet (fail)
        go_wp2_with fail
        go_ret
        refine ⟨rfl, ?_, ?_⟩
        · rw [← HQ.out]; exact hS.out
        · exact ⟨below_drewN hK.out.1 _, hK.out.2⟩
    · have hqe : q = l.length := by omega
      have HQ : Hid (q = p + N) := Lib.hid (by omega)
      have hqp : p ≤ q := hpq
      have hql : q ≤ l.length := by omega
      go_wp2_with fail
      refine (end_yes l q X g cap _ hS.out hqe).mono ?_
      rintro e w1 ⟨rfl, hb1⟩
      have hX1 := hS.out.lt
      replace hK := Lib.hid (hK.out.trans (SK.below hb1 (by omega)))
      replace hS := Lib.hid (hS.out.keep hb1)
      clear hb1 hqe
      obtain ⟨d0, d1, f1⟩ := hS.out.cells
      have hsl := slice_run g l.length cap p q hqp (by have := hS.out.2.2.2.1; omega)
      have HT2 : Hid (⟨(textB ((l.drop p).take (q - p))).toArray⟩ = T) := Lib.hid (by rw [HT.out, HQ.out, Nat.add_sub_cancel_left, HNN.out]; rfl)
      have hcv : ∀ n, (convert 71 9 (.slice (some (partA g cap p)) (q - p) (cap - p))).run Tryd.prog (w1.drewN n) = .ok (.string T) (w1.drewN n) := by
        intro n
        have hS2 : ScW l q X g cap (w1.drewN n) := hS.out
        have := part_text hS2 HL.out p q (cap - p) hqp hql
        rw [HT2.out] at this
        exact this
      go_wp2_with fail
      go_quiet (fail)
      go_wp2_with fail
      go_ret
      refine ⟨rfl, ?_, ?_⟩
      · rw [← HQ.out]; exact hS.out
      · exact ⟨below_drewN hK.out.1 _, hK.out.2⟩
end Go.Proofs.YteicjmippeobpaaDoor
