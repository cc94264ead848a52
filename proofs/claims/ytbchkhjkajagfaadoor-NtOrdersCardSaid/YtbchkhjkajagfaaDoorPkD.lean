/- Texts of this seat put together: ScScanner ScNew ScRun ScText ScTexts ScRows ScAgain ScUntil ScUntils. -/
import Derived.Test.YtbchkhjkajagfaaDoorPkC
import Derived.Deep.QuietTactic
import Derived.BigQuiet
import Derived.Laws.IdiomStrings
import Derived.OneCell
import Derived.Laws.Cover4
import Derived.Deep.LoopGhost
import Derived.Lib.BufferWrite
import Derived.Deep.RegionHeld3
import Derived.Deep.RegionWith
namespace Go.Proofs.YtbchkhjkajagfaaDoor
open Go Go.RowKit
set_option linter.unusedVariables false
/-- a scanner: its block X, the row g of its signs, its place -/
def ScW (l : List Int) (p X g cap : Nat) (w : World) : Prop :=
  w.heap[X]? = some (.cells #[.slice (some ⟨g, 0, none⟩) l.length cap, .int .i64 p] 81 (0, 0)) ∧ g ≠ X ∧ (∀ j (h : j < l.length), w.cell? ⟨g, j, none⟩ = some (.int .i32 (l[j]'h))) ∧ l.length ≤ cap ∧ p ≤ l.length ∧ g < w.heap.size
/-- what a scanner's own methods may turn: its block alone -/
def SK (X : Nat) (w w' : World) : Prop := Below X w w' ∧ ∀ k, k < w.heap.size → k ≠ X → w'.heap[k]? = w.heap[k]?
theorem SK.refl (X : Nat) (w : World) : SK X w w := ⟨Below.refl _ _, fun _ _ _ => rfl⟩
theorem SK.trans {X : Nat} {w w1 w2 : World} (h : SK X w w1) (h' : SK X w1 w2) : SK X w w2 :=
  ⟨h.1.trans h'.1, fun k h1 h2 => (h'.2 k (Nat.lt_of_lt_of_le h1 h.1.size) h2).trans (h.2 k h1 h2)⟩
theorem SK.below {X : Nat} {w w1 : World} (h : Below w.heap.size w w1) (hX : X ≤ w.heap.size) : SK X w w1 := ⟨h.mono hX, fun k h1 _ => h.block k h1⟩
theorem SK.set {X : Nat} (w : World) (o : Nat) (v : Value) : SK X w (w.setCell ⟨X, o, none⟩ v) :=
  ⟨(Below.refl X w).setCell (p := ⟨X, o, none⟩) (Nat.le_refl _) v, fun k _ h2 => Below.heap_setCell w ⟨X, o, none⟩ v k h2⟩
theorem ScW.lt {l : List Int} {p X g cap : Nat} {w : World} (h : ScW l p X g cap w) : X < w.heap.size := lt_of_block h.1
theorem cell_same {w w' : World} {b o : Nat} (h : w'.heap[b]? = w.heap[b]?) : w'.cell? ⟨b, o, none⟩ = w.cell? ⟨b, o, none⟩ := World.cell?_of_block (w := w) h
theorem ScW.keep {l : List Int} {p X g cap : Nat} {w w' : World} (h : ScW l p X g cap w) (hb : Below w.heap.size w w') : ScW l p X g cap w' := by
  obtain ⟨h1, h2, h3, h4, h5, h6⟩ := h
  exact ⟨(hb.block X (lt_of_block h1)).trans h1, h2, fun j hj => (cell_same (hb.block g h6)).trans (h3 j hj), h4, h5, Nat.lt_of_lt_of_le h6 hb.size⟩
/-- the place, stored anew -/
theorem ScW.put {l : List Int} {p X g cap : Nat} {w : World} (h : ScW l p X g cap w) (q : Nat) (hq : q ≤ l.length) : ScW l q X g cap (w.setCell ⟨X, 1, none⟩ (.int .i64 q)) := by
  obtain ⟨h1, h2, h3, h4, h5, h6⟩ := h
  refine ⟨?_, h2, fun j hj => (cell_same (Below.heap_setCell w ⟨X, 1, none⟩ _ g h2)).trans (h3 j hj), h4, hq, by simpa using h6⟩
  have hlt := lt_of_block h1
  have h' : w.heap[X] = .cells #[.slice (some ⟨g, 0, none⟩) l.length cap, .int .i64 p] 81 (0, 0) := by simpa [Array.getElem?_eq_getElem hlt] using h1
  show (w.heap.modify X _)[X]? = _
  rw [Array.getElem?_eq_getElem (by simpa using hlt), Array.getElem_modify_self, h']
  rfl
theorem ScW.cells {l : List Int} {p X g cap : Nat} {w : World} (h : ScW l p X g cap w) : w.cell? ⟨X, 0, none⟩ = some (.slice (some ⟨g, 0, none⟩) l.length cap) ∧ w.cell? ⟨X, 1, none⟩ = some (.int .i64 p) ∧ w.frozen? ⟨X, 1, none⟩ = false := by
  have h1 := h.1
  exact ⟨by simp [World.cell?, h1], by simp [World.cell?, h1], by simp [World.frozen?, h1]⟩
theorem place_any (l : List Int) (p X g cap : Nat) (w : World) (h : ScW l p X g cap w) : Calls Tryd.prog 14 #[.pointer (some ⟨X, 0, none⟩)] w fun e w' => e = .returned (.int .i64 p) ∧ w = w' := by
  obtain ⟨c0, c1, f1⟩ := h.cells
  clear h c0 f1
  go_enter Tryd.func14, Tryd.ntmps14
  go_wp2
  go_ret
  exact ⟨rfl, rfl⟩
theorem end_no (l : List Int) (p X g cap : Nat) (w : World) (h : ScW l p X g cap w) (hp : p < l.length) : Calls Tryd.prog 43 #[.pointer (some ⟨X, 0, none⟩)] w fun e w' => e = .returned (.bool false) ∧ Below w.heap.size w w' := by
  obtain ⟨c0, c1, f1⟩ := h.cells
  have ht : ((p : Int) == (l.length : Int)) = false := beq_eq_false_iff_ne.mpr (by omega)
  clear h f1
  go_enter Tryd.func43, Tryd.ntmps43
  go_wp2_with fail
  go_quiet (fail)
  go_wp2_with fail
  go_ret
  exact ⟨rfl, below_drewN (Below.refl _ _) _⟩
theorem end_yes (l : List Int) (p X g cap : Nat) (w : World) (h : ScW l p X g cap w) (hp : p = l.length) : Calls Tryd.prog 43 #[.pointer (some ⟨X, 0, none⟩)] w fun e w' => e = .returned (.bool true) ∧ Below w.heap.size w w' := by
  obtain ⟨c0, c1, f1⟩ := h.cells
  subst hp
  clear h f1
  go_enter Tryd.func43, Tryd.ntmps43
  go_wp2_with fail
  go_quiet (fail)
  go_wp2_with fail
  go_ret
  exact ⟨ret_bool (by simp), below_drewN (Below.refl _ _) _⟩
theorem peek_no (l : List Int) (p X g cap : Nat) (w : World) (h : ScW l p X g cap w) (hp : p = l.length) : Calls Tryd.prog 63 #[.pointer (some ⟨X, 0, none⟩)] w fun e w' => e = .returned (.int .i32 (-1)) ∧ Below w.heap.size w w' := by
  have HE := Lib.hid (end_yes l p X g cap w h hp)
  clear h hp
  go_enter Tryd.func63, Tryd.ntmps63
  go_wp2_with fail
  refine HE.out.mono ?_
  rintro e w1 ⟨rfl, hb⟩
  go_wp2_with fail
  go_ret
  exact ⟨rfl, hb⟩
theorem peek_yes (l : List Int) (p X g cap : Nat) (w : World) (h : ScW l p X g cap w) (hp : p < l.length) (hl : l.length ≤ 9223372036854775807) : Calls Tryd.prog 63 #[.pointer (some ⟨X, 0, none⟩)] w fun e w' => e = .returned (.int .i32 (l[p]'hp)) ∧ Below w.heap.size w w' := by
  have HE := Lib.hid (end_no l p X g cap w h hp)
  have HS := Lib.hid h
  obtain ⟨n, hn⟩ : ∃ n, n = l[p]'hp := ⟨_, rfl⟩
  rw [← hn]
  have HNN := Lib.hid hn
  clear h hn
  go_enter Tryd.func63, Tryd.ntmps63
  go_wp2_with fail
  refine HE.out.mono ?_
  rintro e w1 ⟨rfl, hb⟩
  have hs1 := HS.out.keep hb
  obtain ⟨c0, c1, f1⟩ := hs1.cells
  have c2 := hs1.2.2.1 p hp
  have b1 : (0 : Int) ≤ (p : Int) := by omega
  have b2 : (p : Int) < (l.length : Int) := by omega
  rw [← HNN.out] at c2
  clear hs1 f1
  go_wp2_with fail
  go_quiet (fail)
  go_wp2_with fail
  go_ret
  exact ⟨rfl, below_drewN hb _⟩
def Moved (l : List Int) (q X g cap : Nat) (v : Value) (w : World) (e : Ending) (w' : World) : Prop := e = .returned v ∧ ScW l q X g cap w' ∧ SK X w w'
theorem next_yes (l : List Int) (p X g cap : Nat) (w : World) (h : ScW l p X g cap w) (hp : p < l.length) (hl : l.length ≤ 1000000000) (hn : SignP (l[p]'hp)) : Calls Tryd.prog 65 #[.pointer (some ⟨X, 0, none⟩)] w (Moved l (p + 1) X g cap (.int .i32 (l[p]'hp)) w) := by
  have HP := Lib.hid (peek_yes l p X g cap w h hp (by omega))
  have HS := Lib.hid h
  have hX := h.lt
  have ht : ((l[p]'hp) != -1) = true := bne_iff_ne.mpr (by unfold SignP at hn; omega)
  clear h hn
  generalize l[p] = n at HP ht ⊢
  go_enter Tryd.func65, Tryd.ntmps65
  go_wp2_with fail
  refine HP.out.mono ?_
  rintro e w1 ⟨rfl, hb⟩
  have hs1 := HS.out.keep hb
  obtain ⟨c0, c1, f1⟩ := hs1.cells
  have HS1 := Lib.hid hs1
  have HB := Lib.hid hb
  clear hs1 hb c0
  go_wp2_with fail
  go_ret
  have e1 : ((p : Int) + 1) = ((p + 1 : Nat) : Int) := by omega
  rw [e1]
  exact ⟨rfl, HS1.out.put (p + 1) (by omega), (SK.below HB.out (by omega)).trans (SK.set _ _ _)⟩
theorem next_no (l : List Int) (p X g cap : Nat) (w : World) (h : ScW l p X g cap w) (hp : p = l.length) : Calls Tryd.prog 65 #[.pointer (some ⟨X, 0, none⟩)] w (Moved l p X g cap (.int .i32 (-1)) w) := by
  have HP := Lib.hid (peek_no l p X g cap w h hp)
  have HS := Lib.hid h
  have hX := h.lt
  clear h hp
  go_enter Tryd.func65, Tryd.ntmps65
  go_wp2_with fail
  refine HP.out.mono ?_
  rintro e w1 ⟨rfl, hb⟩
  have HS1 := Lib.hid (HS.out.keep hb)
  have HB := Lib.hid hb
  clear hb
  go_wp2_with fail
  go_ret
  exact ⟨rfl, HS1.out, SK.below HB.out (by omega)⟩
theorem back_yes (l : List Int) (p q X g cap : Nat) (w : World) (h : ScW l p X g cap w) (hq : q ≤ l.length) : Calls Tryd.prog 11 #[.pointer (some ⟨X, 0, none⟩), .int .i64 q] w (Moved l q X g cap (.bool true) w) := by
  have HS := Lib.hid h
  obtain ⟨c0, c1, f1⟩ := h.cells
  have b1 : (q : Int) ≤ (l.length : Int) := by omega
  clear h
  go_enter Tryd.func11, Tryd.ntmps11
  go_wp2_with fail
  go_ret
  exact ⟨rfl, HS.out.put q hq, SK.set _ _ _⟩
theorem back_no (l : List Int) (p X g cap : Nat) (n : Int) (w : World) (h : ScW l p X g cap w) (hq : n < 0 ∨ (l.length : Int) < n) : Calls Tryd.prog 11 #[.pointer (some ⟨X, 0, none⟩), .int .i64 n] w (Moved l p X g cap (.bool false) w) := by
  have HS := Lib.hid h
  obtain ⟨c0, c1, f1⟩ := h.cells
  clear h
  rcases hq with hq | hq
  · go_enter Tryd.func11, Tryd.ntmps11
    go_wp2_with fail
    go_ret
    exact ⟨rfl, HS.out, SK.refl _ _⟩
  · have b1 : (0 : Int) ≤ n := by omega
    go_enter Tryd.func11, Tryd.ntmps11
    go_wp2_with fail
    go_ret
    exact ⟨rfl, HS.out, SK.refl _ _⟩
end Go.Proofs.YtbchkhjkajagfaaDoor
namespace Go.Proofs.YtbchkhjkajagfaaDoor
open Go Go.RowKit
def runesV (l : List Int) : List Value := l.map (Value.int .i32)
theorem runes_from {s : ByteArray} {l : List Int} (h : Read s.data.toList l []) : ∀ (m k q bound : Nat) (acc : Array Value), l.length - k ≤ m → k ≤ l.length → q = (textB (l.take k)).length → s.size - q ≤ bound → Conv.runesFrom s bound q acc = acc ++ (runesV (l.drop k)).toArray := by
  have hs : s.data.toList.length = s.size := rfl
  have hz : s.data.toList.length = (textB l).length := by rw [h.1, List.append_nil]
  intro m
  induction m with
  | zero =>
    intro k q bound acc h1 h2 h3 h4
    have hk : k = l.length := by omega
    have hq : q = (textB l).length := by rw [h3, hk, List.take_length]
    have e : Conv.runesFrom s bound q acc = acc := by
      cases bound with
      | zero => rfl
      | succ b => unfold Conv.runesFrom; rw [if_neg (by omega)]
    rw [e, hk, List.drop_length]
    simp [runesV]
  | succ m ih =>
    intro k q bound acc h1 h2 h3 h4
    by_cases hk : k < l.length
    · have hlt := (read_here h hk).2.2
      rw [← h3] at hlt
      have hd := decode_here h hk h3
      have hn := (read_here h hk).1
      have hp := (enc_pos (l[k]'hk)).1
      obtain ⟨b, rfl⟩ : ∃ b, bound = b + 1 := ⟨bound - 1, by omega⟩
      unfold Conv.runesFrom
      rw [if_pos (by omega), hd]
      have := ih (k + 1) (q + (enc (l[k]'hk)).length) b (acc.push (.int .i32 (Int.ofNat (l[k]'hk).toNat))) (by omega) (by omega) (by rw [read_next h hk, ← h3]) (by omega)
      simp only at this ⊢
      have e2 : (Int.ofNat (l[k]'hk).toNat) = l[k]'hk := by unfold SignP at hn; show (((l[k]'hk).toNat : Nat) : Int) = _; omega
      have e3 : runesV (l.drop k) = .int .i32 (l[k]'hk) :: runesV (l.drop (k + 1)) := by rw [List.drop_eq_getElem_cons hk]; rfl
      rw [this, e2, e3]
      simp
    · have hk : k = l.length := by omega
      have hq : q = (textB l).length := by rw [h3, hk, List.take_length]
      have e : Conv.runesFrom s bound q acc = acc := by
        cases bound with
        | zero => rfl
        | succ b => unfold Conv.runesFrom; rw [if_neg (by omega)]
      rw [e, hk, List.drop_length]
      simp [runesV]
theorem runes_all {s : ByteArray} {l : List Int} (h : Read s.data.toList l []) : Conv.runesFrom s s.size 0 #[] = (runesV l).toArray := by
  have := runes_from h l.length 0 0 s.size #[] (by omega) (by omega) rfl (by omega)
  rw [this]; simp
theorem drew_heap (w : World) : w.drew.heap = w.heap := rfl
theorem drew_cell (w : World) (a : Addr) : w.drew.cell? a = w.cell? a := rfl
theorem new_world (l : List Int) (w : World) (c : Nat) (A : Array Value) (hA : ∀ j (h : j < l.length), A[j]? = some (.int .i32 (l[j]'h))) (hc : l.length ≤ c) :
    ScW l 0 (w.heap.size + 1) w.heap.size c (((w.alloc (.cells A 21)).alloc (.cells #[.slice (some ⟨w.heap.size, 0, none⟩) l.length c, .int .i64 0] 81)).drew) := by
  have hg : (w.alloc (.cells A 21)).heap[w.heap.size]? = some (.cells A 21) := heap_alloc_new _ _
  have hz : (w.alloc (.cells A 21)).heap.size = w.heap.size + 1 := by simp
  generalize w.alloc (.cells A 21) = w1 at hg hz
  have hx := heap_alloc_new w1 (.cells #[.slice (some ⟨w.heap.size, 0, none⟩) l.length c, .int .i64 0] 81)
  have hg2 := (Below.heap_alloc w1 (.cells #[.slice (some ⟨w.heap.size, 0, none⟩) l.length c, .int .i64 0] 81) w.heap.size (by omega)).trans hg
  have hz2 : (w1.alloc (.cells #[.slice (some ⟨w.heap.size, 0, none⟩) l.length c, .int .i64 0] 81)).heap.size = w.heap.size + 2 := by simp; omega
  generalize w1.alloc (.cells #[.slice (some ⟨w.heap.size, 0, none⟩) l.length c, .int .i64 0] 81) = w2 at hx hg2 hz2
  rw [hz] at hx
  refine ⟨by rw [drew_heap]; exact hx, by omega, fun j hj => ?_, hc, by omega, by rw [drew_heap]; omega⟩
  rw [drew_cell, Lib.cell_of_heap hg2]
  exact hA j hj
theorem runes_at (l : List Int) (B : Array Value) : ∀ j (h : j < l.length), ((runesV l).toArray ++ B)[j]? = some (.int .i32 (l[j]'h)) := by
  intro j hj
  have hjl : j < (runesV l).toArray.size := by simp [runesV]; omega
  rw [Array.getElem?_append_left hjl]
  simp [runesV, hj]
def NewRes (l : List Int) (w : World) (e : Ending) (w' : World) : Prop :=
  ∃ X g cap, e = .returned (.tuple #[.pointer (some ⟨X, 0, none⟩), .int .i64 0, .int .i64 0]) ∧ ScW l 0 X g cap w' ∧ w.heap.size ≤ X ∧ w.heap.size ≤ g ∧ Below w.heap.size w w'
set_option maxHeartbeats 800000 in
theorem new_ok (s : ByteArray) (l : List Int) (w : World) (h : Read s.data.toList l []) (hs : s.size ≤ 1048576) : Calls Tryd.prog 10 #[.string s] w (NewRes l w) := by
  have HW := Lib.hid (wrong_any s l [] w h hs (-1) (by rw [if_pos rfl]))
  have hll : l.length ≤ s.size := read_len h
  have hra := runes_all h
  have hcv : ∀ w : World, (convert 9 79 (.string s)).run Tryd.prog w = .ok (.slice (some ⟨w.heap.size, 0, none⟩) l.length (grownCap w l.length 0 21)) (w.drew.alloc (.cells ((runesV l).toArray ++ Array.replicate (grownCap w l.length 0 21 - l.length) (.int .i32 0)) 21)) := by
    intro w
    have := run_runes_of_string (P := Tryd.prog) w 9 79 21 s Tryd.underlying9 Tryd.underlying79 Tryd.underlying21 (by rw [hra]; simp [runesV]; omega)
    rw [hra] at this
    simpa [runesV] using this
  clear h hra
  go_enter Tryd.func10, Tryd.ntmps10
  go_wp2_with fail
  refine HW.out.mono ?_
  rintro e w1 ⟨rfl, hb⟩
  go_wp2_with fail
  go_ret3
  exact ⟨_, _, _, rfl, new_world l w1 _ _ (runes_at l _) (by have := grownCap_ge w1 l.length 0 21; omega), Nat.le_trans hb.size (by omega), hb.size, ((hb.alloc hb.size _).alloc (Nat.le_trans hb.size (by simp)) _).drew⟩
theorem new_bad (s : ByteArray) (l : List Int) (r : List UInt8) (w : World) (h : Read s.data.toList l r) (hr : r ≠ []) (hs : s.size ≤ 1048576) : Calls Tryd.prog 10 #[.string s] w fun e w' => e = .returned (.tuple #[.pointer none, .int .i64 l.length, .int .i64 1]) ∧ Below w.heap.size w w' := by
  have HW := Lib.hid (wrong_any s l r w h hs l.length (by rw [if_neg hr]))
  clear h hr
  go_enter Tryd.func10, Tryd.ntmps10
  go_wp2_with fail
  refine HW.out.mono ?_
  rintro e w1 ⟨rfl, hb⟩
  go_wp2_with fail
  go_ret3
  exact ⟨rfl, hb⟩
end Go.Proofs.YtbchkhjkajagfaaDoor
namespace Go.Proofs.YtbchkhjkajagfaaDoor
open Go Go.RowKit
set_option linter.unusedVariables false
theorem byte_eq (a : Nat) (x : Int) (h : (a : Int) = x) : UInt8.ofNat a = x.toNat.toUInt8 := by subst h; rfl
theorem encode_enc {n : Int} (h : SignP n) : Utf8.encode n = ⟨(enc n).toArray⟩ := by
  have hv : Utf8.valid n = true := by unfold SignP at h; unfold Utf8.valid; simp; omega
  have hn0 : 0 ≤ n := by unfold SignP at h; omega
  obtain ⟨m, rfl⟩ := Int.eq_ofNat_of_zero_le hn0
  obtain ⟨k, hk⟩ := wide_of h
  unfold Utf8.encode enc Lib.encodeRune
  simp only [hv, if_true, Int.toNat_natCast]
  cases hk with
  | one a b =>
    rw [Lib.encodeRuneZ_one a b, if_pos (by omega), byte_eq m m rfl]
    rfl
  | two a b =>
    rw [Lib.encodeRuneZ_two a b, if_neg (by omega), if_pos (by omega), byte_eq (192 + m / 64) (192 + (m : Int) / 64) (by omega), byte_eq (128 + m % 64) (128 + (m : Int) % 64) (by omega)]
    rfl
  | three a =>
    rw [Lib.encodeRuneZ_three a, if_neg (by omega), if_neg (by omega), if_pos (by omega), byte_eq (224 + m / 4096) (224 + (m : Int) / 4096) (by omega), byte_eq (128 + m / 64 % 64) (128 + (m : Int) / 64 % 64) (by omega), byte_eq (128 + m % 64) (128 + (m : Int) % 64) (by omega)]
    rfl
  | four a b =>
    rw [Lib.encodeRuneZ_four a b, if_neg (by omega), if_neg (by omega), if_neg (by omega), byte_eq (240 + m / 262144) (240 + (m : Int) / 262144) (by omega), byte_eq (128 + m / 4096 % 64) (128 + (m : Int) / 4096 % 64) (by omega), byte_eq (128 + m / 64 % 64) (128 + (m : Int) / 64 % 64) (by omega), byte_eq (128 + m % 64) (128 + (m : Int) % 64) (by omega)]
    rfl
theorem runes_text (l : List Int) (h : ∀ n ∈ l, SignP n) : runesBytes l = ⟨(textB l).toArray⟩ := by
  suffices hh : ∀ (l : List Int) (b : List UInt8), (∀ n ∈ l, SignP n) → l.foldl (fun r n => r ++ Utf8.encode n) (⟨b.toArray⟩ : ByteArray) = ⟨(b ++ textB l).toArray⟩ by
    have := hh l [] h
    unfold runesBytes
    rw [show ByteArray.empty = (⟨([] : List UInt8).toArray⟩ : ByteArray) from rfl, this]; rfl
  intro l
  induction l with
  | nil => intro b _; simp [textB]
  | cons n l ih =>
    intro b hl
    rw [List.foldl_cons, encode_enc (hl n List.mem_cons_self)]
    have e : (⟨b.toArray⟩ : ByteArray) ++ ⟨(enc n).toArray⟩ = ⟨(b ++ enc n).toArray⟩ := bytes_eq (by rw [join_data])
    rw [e, ih _ (fun x hx => hl x (List.mem_cons_of_mem _ hx)), textB_cons, List.append_assoc]
/-- where a part of a row begins, as the model has it -/
def partA (g cap p : Nat) : Addr := if cap = p then ⟨g, 0, none⟩ else ⟨g, p, none⟩
theorem partA_some (g cap p : Nat) : (if cap = p then some (⟨g, 0, none⟩ : Addr) else some ⟨g, p, none⟩) = some (partA g cap p) := by unfold partA; split <;> rfl
theorem partA_add (g cap p j : Nat) (h : p + j < cap) : (partA g cap p).add j = ⟨g, p + j, none⟩ := by
  unfold partA
  rw [if_neg (by omega)]
  unfold Addr.add
  split
  · subst_vars; rfl
  · rfl
theorem slice_run (g n cap p q : Nat) (hpq : p ≤ q) (hq : q ≤ cap) (w : World) :
    (Instr.slice 79 (.slice (some ⟨g, 0, none⟩) n cap) (some (.int .i64 p)) (some (.int .i64 q)) none).run Tryd.prog w = .ok (.slice (some (partA g cap p)) (q - p) (cap - p)) w := by
  rw [← partA_some]
  go_simp
/-- the text of a part -/
theorem part_text {l : List Int} {P X g cap : Nat} {w : World} (h : ScW l P X g cap w) (hl : ∀ n ∈ l, SignP n) (p q C : Nat) (hpq : p ≤ q) (hq : q ≤ l.length) :
    (convert 79 9 (.slice (some (partA g cap p)) (q - p) C)).run Tryd.prog w = .ok (.string ⟨(textB ((l.drop p).take (q - p))).toArray⟩) w := by
  have hc := h.2.2.1
  have hcap := h.2.2.2.1
  have hz : ((l.drop p).take (q - p)).length = q - p := by rw [List.length_take, List.length_drop]; omega
  have := run_convert_runes (P := Tryd.prog) w 79 9 21 (partA g cap p) (q - p) C ((l.drop p).take (q - p)) (by omega) Tryd.underlying79 Tryd.underlying21 Tryd.underlying9 (by
    intro j hj
    rw [hz] at hj
    rw [partA_add g cap p j (by omega), hc (p + j) (by omega)]
    rw [List.getD_eq_getElem?_getD, List.getElem?_take_of_lt hj, List.getElem?_drop, List.getElem?_eq_getElem (by omega)]
    rfl)
  rw [this, List.take_of_length_le (by omega), runes_text _ (fun n hn => hl n (List.mem_of_mem_drop (List.mem_of_mem_take hn)))]
/-- a slice of classes that lies elsewhere than the scanner -/
def ClsAt (cs : List Int) (a : Option Addr) (n X : Nat) (w : World) : Prop :=
  n = cs.length ∧ (n = 0 ∨ ∃ b off, a = some ⟨b, off, none⟩ ∧ b ≠ X ∧ b < w.heap.size ∧ ∀ j, j < cs.length → w.cell? ⟨b, off + j, none⟩ = some (.int .i64 (cs.getD j 0)))
theorem ClsAt.below {cs : List Int} {a : Option Addr} {n X : Nat} {w w' : World} (h : ClsAt cs a n X w) (hb : Below w.heap.size w w') : ClsAt cs a n X w' := by
  obtain ⟨h1, h2 | ⟨b, off, h2, h3, h4, h5⟩⟩ := h
  · exact ⟨h1, .inl h2⟩
  · exact ⟨h1, .inr ⟨b, off, h2, h3, Nat.lt_of_lt_of_le h4 hb.size, fun j hj => (cell_same (hb.block b h4)).trans (h5 j hj)⟩⟩
theorem ClsAt.sk {cs : List Int} {a : Option Addr} {n X : Nat} {w w' : World} (h : ClsAt cs a n X w) (hb : SK X w w') : ClsAt cs a n X w' := by
  obtain ⟨h1, h2 | ⟨b, off, h2, h3, h4, h5⟩⟩ := h
  · exact ⟨h1, .inl h2⟩
  · exact ⟨h1, .inr ⟨b, off, h2, h3, Nat.lt_of_lt_of_le h4 hb.1.size, fun j hj => (cell_same (hb.2 b h4 h3)).trans (h5 j hj)⟩⟩
theorem contains_any (cs : List Int) (a : Option Addr) (n c X : Nat) (x : Int) (w : World) (h : ClsAt cs a n X w) (hbig : n ≤ 9223372036854775807) :
    Calls Tryd.prog 94 #[.slice a n c, .int .i64 x] w fun e w' => e = .returned (.bool (cs.contains x)) ∧ w' = w := by
  obtain ⟨h1, h2⟩ := h
  by_cases h0 : n = 0
  · have : cs = [] := List.eq_nil_of_length_eq_zero (by omega)
    subst h0 this
    exact Tryd.slices_Contains_int_empty a c x w
  · rcases h2 with h2 | ⟨b, off, rfl, _, _, h5⟩
    · exact absurd h2 h0
    · have := Tryd.slices_Contains_int b off n c cs x w (by omega) hbig h5
      rw [List.take_of_length_le (by omega)] at this
      exact this
/-- how many signs of some classes stand ahead -/
def tw (cs : List Int) : List Int → Nat
  | [] => 0
  | n :: t => if cs.contains (classV n) then tw cs t + 1 else 0
theorem tw_le (cs l : List Int) : tw cs l ≤ l.length := by
  induction l with
  | nil => simp [tw]
  | cons n t ih => unfold tw; split <;> simp <;> omega
theorem tw_in (cs l : List Int) : ∀ q (h : q < l.length), q < tw cs l → cs.contains (classV (l[q]'h)) = true := by
  induction l with
  | nil => intro q h; simp at h
  | cons n t ih =>
    intro q h hq
    unfold tw at hq
    split at hq
    · rename_i hn
      cases q with
      | zero => exact hn
      | succ q => exact ih q (by simpa using h) (by omega)
    · omega
theorem tw_end (cs l : List Int) : ∀ (h : tw cs l < l.length), cs.contains (classV (l[tw cs l]'h)) = false := by
  induction l with
  | nil => intro h; simp at h
  | cons n t ih =>
    intro h
    by_cases hn : cs.contains (classV n) = true
    · have e : tw cs (n :: t) = tw cs t + 1 := by conv => lhs; unfold tw
                                                  rw [if_pos hn]
      have h2 : tw cs t < t.length := by rw [e] at h; simpa using h
      have := ih h2
      simp only [e, List.getElem_cons_succ]
      exact this
    · have e : tw cs (n :: t) = 0 := by conv => lhs; unfold tw
                                        rw [if_neg hn]
      simp only [e, List.getElem_cons_zero]
      simpa using hn
/-- how many signs of some classes follow -/
def runN (cs l : List Int) (p : Nat) : Nat := tw cs (l.drop p)
theorem runN_le (cs l : List Int) (p : Nat) (hp : p ≤ l.length) : p + runN cs l p ≤ l.length := by
  have := tw_le cs (l.drop p)
  rw [List.length_drop] at this
  unfold runN; omega
theorem runN_in {cs l : List Int} {p q : Nat} (h1 : p ≤ q) (h2 : q < p + runN cs l p) (h3 : q < l.length) : cs.contains (classV (l[q]'h3)) = true := by
  have := tw_in cs (l.drop p) (q - p) (by rw [List.length_drop]; omega) (by unfold runN at h2; omega)
  rw [List.getElem_drop] at this
  have e : p + (q - p) = q := by omega
  simp only [e] at this
  exact this
theorem runN_end {cs l : List Int} {p : Nat} (h3 : p + runN cs l p < l.length) : cs.contains (classV (l[p + runN cs l p]'h3)) = false := by
  have := tw_end cs (l.drop p) (by rw [List.length_drop]; unfold runN at h3; omega)
  rw [List.getElem_drop] at this
  exact this
def runT (cs l : List Int) (p : Nat) : ByteArray := ⟨(textB ((l.drop p).take (runN cs l p))).toArray⟩
set_option maxHeartbeats 1600000 in
theorem run_any (cs l : List Int) (p X g cap : Nat) (a : Option Addr) (n c : Nat) (w : World) (h : ScW l p X g cap w) (hl : ∀ n ∈ l, SignP n) (hb : l.length ≤ 1000000) (hcs : ClsAt cs a n X w) (hn : n ≤ 1000000) :
    Calls Tryd.prog 86 #[.pointer (some ⟨X, 0, none⟩), .slice a n c] w (Moved l (p + runN cs l p) X g cap (.string (runT cs l p)) w) := by
  have HS := Lib.hid h
  have HC := Lib.hid hcs
  have HL := Lib.hid hl
  obtain ⟨c0, c1, f1⟩ := h.cells
  have hp := h.2.2.2.2.1
  have hX := h.lt
  have HN := Lib.hid (runN_le cs l p hp)
  obtain ⟨N, hN⟩ : ∃ N, N = runN cs l p := ⟨_, rfl⟩
  have HNN := Lib.hid hN
  obtain ⟨T, hT⟩ : ∃ T, T = runT cs l p := ⟨_, rfl⟩
  have HT := Lib.hid hT
  rw [← hN, ← hT]
  rw [← hN] at HN
  have hNl := HN.out
  clear h hl hcs hN hT c0 f1
  go_enter Tryd.func86, Tryd.ntmps86
  go_wp2_with fail
  clear c1
  go_loopg [] N (fun gn wr => ∃ q : Nat, q + gn = p + N ∧ p ≤ q ∧ Hid (ScW l q X g cap wr) ∧ Hid (ClsAt cs a n X wr) ∧ Hid (SK X w wr))
  case atStart => exact ⟨p, by omega, by omega, HS, HC, Lib.hid (SK.refl _ _)⟩
  case round =>
    obtain ⟨q, hq, hpq, hS, hC, hK⟩ := hrel
    clear HS HC
    by_cases hlt : q < l.length
    · go_wp2_with fail
      refine (end_no l q X g cap _ hS.out hlt).mono ?_
      rintro e w1 ⟨rfl, hb1⟩
      have hX1 := hS.out.lt
      replace hK := Lib.hid (hK.out.trans (SK.below hb1 (by omega)))
      replace hS := Lib.hid (hS.out.keep hb1)
      replace hC := Lib.hid (hC.out.below hb1)
      clear hb1
      go_wp2_with fail
      refine (peek_yes l q X g cap _ hS.out hlt (by omega)).mono ?_
      rintro e w2 ⟨rfl, hb1⟩
      replace hX1 := hS.out.lt
      replace hK := Lib.hid (hK.out.trans (SK.below hb1 (by omega)))
      replace hS := Lib.hid (hS.out.keep hb1)
      replace hC := Lib.hid (hC.out.below hb1)
      clear hb1
      have hsn := HL.out _ (List.getElem_mem hlt)
      have hn0 : -2147483648 ≤ l[q] ∧ l[q] ≤ 2147483647 := by unfold SignP at hsn; omega
      clear hsn
      by_cases hin : q < p + N
      · have HI := Lib.hid (runN_in hpq (by rw [← HNN.out]; exact hin) hlt)
        generalize l[q] = m at HI hn0 ⊢
        obtain ⟨m0, m1⟩ := hn0
        go_wp2_with fail
        refine (class_any m _ m0 m1).mono ?_
        rintro e w' ⟨rfl, rfl⟩
        go_wp2_with fail
        refine (contains_any cs a n c X _ _ hC.out (by omega)).mono ?_
        rintro e w' ⟨rfl, rfl⟩
        rw [HI.out]
        obtain ⟨d0, d1, f1⟩ := hS.out.cells
        clear d0
        go_wp2_with fail
        have e1 : ((q : Int) + 1) = ((q + 1 : Nat) : Int) := by omega
        rw [e1]
        have hS2 := Lib.hid (hS.out.put (q + 1) (by omega))
        have hC2 := Lib.hid (hC.out.sk (SK.set (X := X) _ 1 (.int .i64 ((q + 1 : Nat) : Int))))
        have hK2 := Lib.hid (hK.out.trans (SK.set (X := X) _ 1 (.int .i64 ((q + 1 : Nat) : Int))))
        go_roundg (gk - 1)
        case measure => omega
        case rel => exact ⟨q + 1, by omega, by omega, hS2, hC2, hK2⟩
      · have HQ : Hid (q = p + N) := Lib.hid (by omega)
        have hqp : p ≤ q := hpq
        have hql : q ≤ l.length := by omega
        have HI : Hid (cs.contains (classV (l[q]'hlt)) = false) := by
          have h1 := HQ.out
          have h2 := HNN.out
          subst h1 h2
          exact Lib.hid (runN_end hlt)
        generalize l[q] = m at HI hn0 ⊢
        obtain ⟨m0, m1⟩ := hn0
        go_wp2_with fail
        refine (class_any m _ m0 m1).mono ?_
        rintro e w' ⟨rfl, rfl⟩
        go_wp2_with fail
        refine (contains_any cs a n c X _ _ hC.out (by omega)).mono ?_
        rintro e w' ⟨rfl, rfl⟩
        rw [HI.out]
        obtain ⟨d0, d1, f1⟩ := hS.out.cells
        have hsl := slice_run g l.length cap p q hqp (by have := hS.out.2.2.2.1; omega)
        have HT2 : Hid (⟨(textB ((l.drop p).take (q - p))).toArray⟩ = T) := Lib.hid (by rw [HT.out, HQ.out, Nat.add_sub_cancel_left, HNN.out]; rfl)
        have hcv : ∀ n, (convert 79 9 (.slice (some (partA g cap p)) (q - p) (cap - p))).run Tryd.prog (w'.drewN n) = .ok (.string T) (w'.drewN n) := by
          intro n
          have hS2 : ScW l q X g cap (w'.drewN n) := hS.out
          have := part_text hS2 HL.out p q (cap - p) hqp hql
          rw [HT2.out] at this
          exact this
        go_wp2_with fail
        go_quiet (fail)
        go_wp2_with fail
        go_ret
        refine ⟨rfl, ?_, ?_⟩
        · rw [← HQ.out]; exact hS.out
        · exact ⟨below_drewN hK.out.1 _, hK.out.2⟩
    · have hqe : q = l.length := by omega
      have HQ : Hid (q = p + N) := Lib.hid (by omega)
      have hqp : p ≤ q := hpq
      have hql : q ≤ l.length := by omega
      go_wp2_with fail
      refine (end_yes l q X g cap _ hS.out hqe).mono ?_
      rintro e w1 ⟨rfl, hb1⟩
      have hX1 := hS.out.lt
      replace hK := Lib.hid (hK.out.trans (SK.below hb1 (by omega)))
      replace hS := Lib.hid (hS.out.keep hb1)
      clear hb1 hqe
      obtain ⟨d0, d1, f1⟩ := hS.out.cells
      have hsl := slice_run g l.length cap p q hqp (by have := hS.out.2.2.2.1; omega)
      have HT2 : Hid (⟨(textB ((l.drop p).take (q - p))).toArray⟩ = T) := Lib.hid (by rw [HT.out, HQ.out, Nat.add_sub_cancel_left, HNN.out]; rfl)
      have hcv : ∀ n, (convert 79 9 (.slice (some (partA g cap p)) (q - p) (cap - p))).run Tryd.prog (w1.drewN n) = .ok (.string T) (w1.drewN n) := by
        intro n
        have hS2 : ScW l q X g cap (w1.drewN n) := hS.out
        have := part_text hS2 HL.out p q (cap - p) hqp hql
        rw [HT2.out] at this
        exact this
      go_wp2_with fail
      go_quiet (fail)
      go_wp2_with fail
      go_ret
      refine ⟨rfl, ?_, ?_⟩
      · rw [← HQ.out]; exact hS.out
      · exact ⟨below_drewN hK.out.1 _, hK.out.2⟩
end Go.Proofs.YtbchkhjkajagfaaDoor
namespace Go.Proofs.YtbchkhjkajagfaaDoor
open Go Go.RowKit
set_option maxRecDepth 100000
set_option linter.unusedVariables false
def tBytes (l : List Int) : ByteArray := ⟨(textB l).toArray⟩
theorem textB_le (l : List Int) : (textB l).length ≤ 4 * l.length := by
  induction l with
  | nil => simp [textB]
  | cons n l ih =>
    have := (enc_pos n).2
    rw [textB_cons, List.length_append, List.length_cons]; omega
theorem rune_one (n : Int) : ∀ u ∈ Lib.runeCells n, u.oneCell' = true := by
  intro u hu
  unfold Lib.runeCells at hu
  obtain ⟨x, _, rfl⟩ := List.mem_map.1 hu
  rfl
theorem rune_len (n : Int) : (Lib.runeCells n).length = (enc n).length := by rw [Lib.runeCells_length]; rfl
theorem back_text (w : World) (base : Nat) (a : Option Addr) (m c : Nat) (bs : List UInt8) (hm : m = bs.length) (ho : w.ownsRow base 5 1 (.slice a m c) m (Lib.byteCells bs)) :
    (convert 43 9 (.slice a m c)).run Tryd.prog w = .ok (.string ⟨bs.toArray⟩) w := by
  subst hm
  rcases ho.2 with ⟨h1, h2⟩ | ⟨g, c', cur, h1, _⟩
  · injection h1 with e1 e2 e3
    subst e1 e3
    have : bs = [] := List.eq_nil_of_length_eq_zero e2
    subst this
    rw [run_convert_bytes_string w 43 9 5 none _ _ Tryd.underlying43 Tryd.underlying5 Tryd.underlying9]
    simp [Conv.bytesToString]
    rfl
  · injection h1 with e1 _ _
    subst e1
    refine run_convert_bytes_back w 43 9 5 ⟨g, 0, none⟩ c bs Tryd.underlying43 Tryd.underlying5 Tryd.underlying9 (fun j hj => ?_)
    have := ho.cells (g := g) rfl j (.int .u8 (bs[j].toNat : Int)) (by simp [Lib.byteCells, hj])
    exact this
set_option maxHeartbeats 1600000 in
theorem text_any (L : List Int) (a : Option Addr) (n c X : Nat) (w : World) (h : ClsAt L a n X w) (hl : ∀ x ∈ L, SignP x) (hn : n ≤ 1000000) :
    Calls Tryd.prog 41 #[.slice a n c] w fun e w' => e = .returned (.string (tBytes L)) ∧ Below w.heap.size w w' := by
  obtain ⟨i0, hi, hz0, hz1, hz2⟩ := info_parts infoByte
  have HC := Lib.hid h
  have hnl1 : n ≤ L.length := Nat.le_of_eq h.1
  have hnl2 : L.length ≤ n := Nat.le_of_eq h.1.symm
  have HL := Lib.hid hl
  clear h hl
  go_enter Tryd.func41, Tryd.ntmps41
  go_wp2_with fail
  go_loopw [3, 7] (fun v i wr => ∃ (k m : Nat) (a' : Option Addr) (c' : Nat), k ≤ n ∧ m ≤ 4 * k ∧ Hid (m = (textB (L.take k)).length) ∧ i = .int .i64 k ∧ v = .slice a' m c' ∧ wr.ownsRow w.heap.size 5 1 (.slice a' m c') m (Lib.byteCells (textB (L.take k))) ∧ Below w.heap.size w wr)
    (fun _ i _ => n - (intOf i).toNat)
  case atStart => exact ⟨0, 0, none, 0, by omega, by omega, Lib.hid rfl, rfl, rfl, World.ownsRow_nil _ _ _ _, Below.refl _ _⟩
  case round =>
    obtain ⟨k, m, a', c', hk, hm4, HM, rfl, rfl, hown, hb⟩ := hrel
    have hsz := hb.size
    by_cases hlt : k < n
    · have hkL : k < L.length := by omega
      obtain ⟨b, off, ha, hcell⟩ : ∃ b off, a = some ⟨b, off, none⟩ ∧ wr.cell? ⟨b, off + k, none⟩ = some (.int .i64 (L[k]'hkL)) := by
        rcases (HC.out.below hb).2 with h0 | ⟨b, off, h1, _, _, h4⟩
        · omega
        · refine ⟨b, off, h1, ?_⟩
          rw [h4 k hkL, List.getD_eq_getElem?_getD, List.getElem?_eq_getElem hkL]; rfl
      have hsn := Lib.hid (HL.out _ (List.getElem_mem hkL))
      have HT : Hid (textB (L.take (k + 1)) = textB (L.take k) ++ enc (L[k]'hkL)) := Lib.hid (by rw [List.take_succ_eq_append_getElem hkL, textB_snoc])
      generalize L[k] = x at hcell hsn HT
      have hpos := enc_pos x
      subst ha
      go_wp2_with fail
      refine (bytes_any x _ hsn.out).mono ?_
      rintro e w2 ⟨rfl, hw2⟩
      have hnew : w2.heap[wr.heap.size]? = some (.cells (Lib.runeCells x).toArray 5 (0, 0)) := by rw [hw2]; exact heap_alloc_new _ _
      have hbb : Below wr.heap.size wr w2 := by rw [hw2]; exact (Below.refl _ _).alloc (Nat.le_refl _) _
      have ho2 := ownsRow_below hown hbb
      have hb2 := hb.trans (hbb.mono hsz)
      have hs2 := hb2.size
      have HN := Lib.hid (fun (j : Nat) (u : Value) (hj : (Lib.runeCells x)[j]? = some u) => show w2.cell? ((⟨wr.heap.size, 0, none⟩ : Addr).add j) = some u by
        have e : (⟨wr.heap.size, 0, none⟩ : Addr).add j = ⟨wr.heap.size, j, none⟩ := by
          unfold Addr.add
          split
          · subst_vars; rfl
          · simp
        rw [e, Lib.cell_of_heap hnew]
        simpa using hj)
      clear hw2 hnew hbb hown hb hcell
      go_wp2_with (at_builtin; refine wpList_append_own _ rfl (.tmp 10) (.tmp 15) 43 rfl w.heap.size 5 i0 (.int .u8 0) 1 1 Tryd.underlying43 hi hz0 hz1 hz2 rfl (by decide) _ _ _ rfl ho2 ⟨wr.heap.size, 0, none⟩ (enc x).length (enc x).length (Lib.runeCells x) rfl (by rw [rune_len]; omega) HN.out (rune_one x) (by unfold maxLen; omega) (by omega) (by omega) ?_; intro v' w4 oa ga _; obtain ⟨a4, c4, rfl⟩ := own_form oa; have hb4 : Below w.heap.size w w4 := hb2.grown ga (by omega) (fun g hg => (ho2.lt g hg).1); clear ga)
      have HM2 : Hid (m + (enc x).length = (textB (L.take (k + 1))).length) := Lib.hid (by rw [HT.out, List.length_append, ← HM.out])
      have oa2 : w4.ownsRow w.heap.size 5 1 (.slice a4 (m + (enc x).length) c4) (m + (enc x).length) (Lib.byteCells (textB (L.take (k + 1)))) := by
        rw [HT.out, Lib.byteCells_append]
        rw [show Lib.byteCells (enc x) = Lib.runeCells x from Lib.byteCells_encodeRune x]
        exact oa
      go_roundw
      case rel => exact ⟨k + 1, m + (enc x).length, a4, c4, by omega, by omega, HM2, by go_num, rfl, oa2, hb4⟩
      case measure => simp [intOf]; omega
    · have hkn : k = L.length := by omega
      have hcv : (convert 43 9 (.slice a' m c')).run Tryd.prog wr = .ok (.string (tBytes L)) wr := by
        have := back_text wr w.heap.size a' m c' (textB (L.take k)) HM.out hown
        rw [hkn, List.take_length] at this
        exact this
      clear hkn
      go_wp2_with fail
      go_ret
      exact ⟨rfl, hb⟩
end Go.Proofs.YtbchkhjkajagfaaDoor
namespace Go.Proofs.YtbchkhjkajagfaaDoor
open Go Go.RowKit
set_option maxRecDepth 100000
/-- a row of integers, cell for cell -/
def RowI (L : List Int) (g : Nat) (w : World) : Prop := (∀ j (h : j < L.length), w.cell? ⟨g, j, none⟩ = some (.int .i64 (L[j]'h))) ∧ g < w.heap.size
theorem RowI.below {L : List Int} {g : Nat} {w w' : World} (h : RowI L g w) (hb : Below w.heap.size w w') : RowI L g w' := ⟨fun j hj => (cell_same (hb.block g h.2)).trans (h.1 j hj), Nat.lt_of_lt_of_le h.2 hb.size⟩
theorem RowI.sk {L : List Int} {g X : Nat} {w w' : World} (h : RowI L g w) (hb : SK X w w') (hg : g ≠ X) : RowI L g w' := ⟨fun j hj => (cell_same (hb.2 g h.2 hg)).trans (h.1 j hj), Nat.lt_of_lt_of_le h.2 hb.1.size⟩
theorem row_of {w : World} {base : Nat} {L : List Int} {a : Option Addr} {cap : Nat} (ho : w.ownsRow base 3 1 (.slice a L.length cap) L.length (intsV L)) (hn : 0 < L.length) : ∃ g, a = some ⟨g, 0, none⟩ ∧ RowI L g w := by
  obtain ⟨g, h1, h2⟩ := ints_cells ho hn
  exact ⟨g, h1, h2, block_lt_of_cell (h2 0 hn)⟩
end Go.Proofs.YtbchkhjkajagfaaDoor
namespace Go.Proofs.YtbchkhjkajagfaaDoor
open Go Go.RowKit
set_option maxRecDepth 100000
set_option linter.unusedVariables false
theorem class_six {n : Int} (h : SignP n) : ([0, 1, 2, 3, 4, 5] : List Int).contains (classV n) = true := by
  have hv : classV n = 0 ∨ classV n = 1 ∨ classV n = 2 ∨ classV n = 3 ∨ classV n = 4 ∨ classV n = 5 := by
    unfold classV
    rw [if_neg (by simpa using h)]
    (repeat' split) <;> omega
  rcases hv with h | h | h | h | h | h
  all_goals rw [h]; decide
theorem tw_six (l : List Int) (hl : ∀ n ∈ l, SignP n) : tw [0, 1, 2, 3, 4, 5] l = l.length := by
  induction l with
  | nil => rfl
  | cons n t ih =>
    unfold tw
    rw [if_pos (class_six (hl n List.mem_cons_self)), ih (fun x hx => hl x (List.mem_cons_of_mem _ hx))]
    rfl
def sixV : Array Value := #[.int .i64 0, .int .i64 1, .int .i64 2, .int .i64 3, .int .i64 4, .int .i64 5]
theorem cls_six {w : World} {b X : Nat} (h : w.heap[b]? = some (.cells sixV 3 (0, 0))) (hb : b ≠ X) : ClsAt [0, 1, 2, 3, 4, 5] (some ⟨b, 0, none⟩) 6 X w := by
  refine ⟨rfl, .inr ⟨b, 0, rfl, hb, lt_of_block h, fun j hj => ?_⟩⟩
  rw [Lib.cell_of_heap h]
  have hj6 : j < 6 := hj
  rcases (by omega : j = 0 ∨ j = 1 ∨ j = 2 ∨ j = 3 ∨ j = 4 ∨ j = 5) with rfl | rfl | rfl | rfl | rfl | rfl
  all_goals rfl
theorem run_six (l : List Int) (p X g cap b : Nat) (w : World) (h : ScW l p X g cap w) (hl : ∀ n ∈ l, SignP n) (hb : l.length ≤ 1000000) (hc : w.heap[b]? = some (.cells sixV 3 (0, 0))) (hbX : b ≠ X) :
    Calls Tryd.prog 86 #[.pointer (some ⟨X, 0, none⟩), .slice (some ⟨b, 0, none⟩) 6 6] w (Moved l l.length X g cap (.string (tBytes (l.drop p))) w) := by
  have hr := run_any [0, 1, 2, 3, 4, 5] l p X g cap (some ⟨b, 0, none⟩) 6 6 w h hl hb (cls_six hc hbX) (by omega)
  have e1 : runN [0, 1, 2, 3, 4, 5] l p = l.length - p := by
    unfold runN
    rw [tw_six _ (fun n hn => hl n (List.mem_of_mem_drop hn)), List.length_drop]
  have e2 : runT [0, 1, 2, 3, 4, 5] l p = tBytes (l.drop p) := by
    unfold runT tBytes
    rw [e1, List.take_of_length_le (by rw [List.length_drop]; exact Nat.le_refl _)]
  have e3 : p + runN [0, 1, 2, 3, 4, 5] l p = l.length := by have := h.2.2.2.2.1; omega
  rw [e3, e2] at hr
  exact hr
/-- the row of the signs: nil where there is none -/
def SgRow (l : List Int) (a : Option Addr) (c : Nat) (w : World) : Prop := (l = [] ∧ a = none ∧ c = 0) ∨ ∃ g, a = some ⟨g, 0, none⟩ ∧ RowI l g w ∧ l.length ≤ c
theorem SgRow.below {l : List Int} {a : Option Addr} {c : Nat} {w w' : World} (h : SgRow l a c w) (hb : Below w.heap.size w w') : SgRow l a c w' := by
  rcases h with h | ⟨g, h1, h2, h3⟩
  · exact .inl h
  · exact .inr ⟨g, h1, h2.below hb, h3⟩
/-- .. and where it lies: below the scanner -/
def SgAt (l : List Int) (a : Option Addr) (c X : Nat) (w : World) : Prop := (l = [] ∧ a = none ∧ c = 0) ∨ ∃ g, a = some ⟨g, 0, none⟩ ∧ RowI l g w ∧ l.length ≤ c ∧ g < X
theorem SgAt.of {l : List Int} {a : Option Addr} {c X : Nat} {w w' : World} (h : SgRow l a c w) (hb : Below w.heap.size w w') (hX : w.heap.size ≤ X) : SgAt l a c X w' := by
  rcases h with h | ⟨g, h1, h2, h3⟩
  · exact .inl h
  · exact .inr ⟨g, h1, h2.below hb, h3, by have := h2.2; omega⟩
theorem SgAt.sk {l : List Int} {a : Option Addr} {c X : Nat} {w w' : World} (h : SgAt l a c X w) (hb : SK X w w') : SgAt l a c X w' := by
  rcases h with h | ⟨g, h1, h2, h3, h4⟩
  · exact .inl h
  · exact .inr ⟨g, h1, h2.sk hb (by omega), h3, h4⟩
theorem SgAt.below {l : List Int} {a : Option Addr} {c X : Nat} {w w' : World} (h : SgAt l a c X w) (hb : Below w.heap.size w w') : SgAt l a c X w' := by
  rcases h with h | ⟨g, h1, h2, h3, h4⟩
  · exact .inl h
  · exact .inr ⟨g, h1, h2.below hb, h3, h4⟩
def SignsRes2 (l : List Int) (w : World) (e : Ending) (w' : World) : Prop := ∃ a cap, e = .returned (.tuple #[.slice a l.length cap, .bool true]) ∧ SgRow l a cap w' ∧ Below w.heap.size w w'
theorem own_len {w : World} {base : Nat} {T : TypeId} {a : Option Addr} {n cap : Nat} {xs : List Value} (h : w.ownsRow base T 1 (.slice a n cap) n xs) (hn : 0 < n) : n ≤ cap := by
  rcases h.2 with ⟨h1, _⟩ | ⟨g, c, cur, h1, _, _, hnc, _⟩
  · injection h1 with _ h _; omega
  · injection h1 with _ _ h; omega
theorem signs_row (s : ByteArray) (l : List Int) (w : World) (h : Read s.data.toList l []) (hs : s.size ≤ 1048576) : Calls Tryd.prog 9 #[.string s] w (SignsRes2 l w) := by
  rcases Nat.eq_zero_or_pos l.length with h0 | h0
  · obtain rfl : l = [] := List.eq_nil_of_length_eq_zero h0
    have hz : s.size = 0 := by have := h.1; have e : s.data.toList.length = s.size := rfl; rw [this] at e; simpa [textB] using e.symm
    clear h h0 hs
    have hz1 : (s.size : Int) ≤ 0 := by omega
    clear hz
    go_enter Tryd.func9, Tryd.ntmps9
    go_wp2_with fail
    refine wp_loop_rounds 1 ?_
    rw [rounds_succ]
    go_wp2_with fail
    go_ret2
    exact ⟨none, 0, rfl, .inl ⟨rfl, rfl, rfl⟩, Below.refl _ _⟩
  · refine (signs_any s l [] w h hs).mono ?_
    rintro e w' ⟨a, cap, rfl, ho, hb⟩
    obtain ⟨g, rfl, hR⟩ := row_of ho h0
    exact ⟨_, cap, rfl, .inr ⟨g, rfl, hR, own_len ho h0⟩, hb⟩
theorem slice_ints (l : List Int) (a : Option Addr) (c X p : Nat) (w0 : World) (h : SgAt l a c X w0) (hp : p ≤ l.length) :
    ∃ a' c', (∀ w : World, (Instr.slice 23 (.slice a l.length c) (some (.int .i64 p)) none none).run Tryd.prog w = .ok (.slice a' (l.length - p) c') w) ∧ ∀ w, SgAt l a c X w → ClsAt (l.drop p) a' (l.length - p) X w := by
  rcases h with ⟨rfl, rfl, rfl⟩ | ⟨g, rfl, hR, hc, hg⟩
  · obtain rfl : p = 0 := by simpa using hp
    refine ⟨none, 0, fun w => ?_, fun w _ => ⟨by simp, .inl (by simp)⟩⟩
    go_simp
  · refine ⟨some (partA g c p), c - p, fun w => ?_, fun w hw => ⟨by rw [List.length_drop], ?_⟩⟩
    · rw [← partA_some]
      go_simp
    · by_cases hpl : p = l.length
      · exact .inl (by omega)
      · refine .inr ⟨g, p, ?_, by omega, ?_, fun j hj => ?_⟩
        · unfold partA; rw [if_neg (by omega)]
        · rcases hw with ⟨_, h2, _⟩ | ⟨g', h1, h2, _⟩
          · cases h2
          · injection h1 with h1; injection h1 with h1; subst h1; exact h2.2
        · rcases hw with ⟨_, h2, _⟩ | ⟨g', h1, h2, _⟩
          · cases h2
          · injection h1 with h1; injection h1 with h1; subst h1
            rw [List.length_drop] at hj
            rw [h2.1 (p + j) (by omega), List.getD_eq_getElem?_getD, List.getElem?_drop, List.getElem?_eq_getElem (by omega)]
            rfl
end Go.Proofs.YtbchkhjkajagfaaDoor
namespace Go.Proofs.YtbchkhjkajagfaaDoor
open Go Go.RowKit
set_option maxRecDepth 100000
set_option linter.unusedVariables false
/-- the scanner at a place, the row, and what is older than both -/
def St (l : List Int) (p X g cap : Nat) (a : Option Addr) (c : Nat) (w0 w : World) : Prop := ScW l p X g cap w ∧ SgAt l a c X w ∧ Below w0.heap.size w0 w ∧ w0.heap.size ≤ X ∧ (∀ n ∈ l, SignP n) ∧ l.length ≤ 300
theorem St.below {l : List Int} {p X g cap : Nat} {a : Option Addr} {c : Nat} {w0 w w' : World} (h : St l p X g cap a c w0 w) (hb : Below w.heap.size w w') : St l p X g cap a c w0 w' :=
  ⟨h.1.keep hb, h.2.1.below hb, h.2.2.1.trans (hb.mono h.2.2.1.size), h.2.2.2⟩
theorem St.drew {l : List Int} {p X g cap : Nat} {a : Option Addr} {c : Nat} {w0 w : World} (h : St l p X g cap a c w0 w) : St l p X g cap a c w0 w.drew := h.below (Below.refl w.heap.size w).drew
theorem St.moved {l : List Int} {p q X g cap : Nat} {a : Option Addr} {c : Nat} {v : Value} {w0 w w' : World} {e : Ending} (h : St l p X g cap a c w0 w) (hm : Moved l q X g cap v w e w') : e = .returned v ∧ St l q X g cap a c w0 w' :=
  ⟨hm.1, hm.2.1, h.2.1.sk hm.2.2, h.2.2.1.trans (hm.2.2.1.mono h.2.2.2.1), h.2.2.2⟩
theorem tBytes_read {s : ByteArray} {l : List Int} (h : Read s.data.toList l []) : tBytes (l.drop 0) = s := by
  unfold tBytes
  apply ByteArray.ext
  apply Array.toList_inj.mp
  have := h.1
  simpa using this.symm
theorem six_alloc {w : World} {X : Nat} (h : X < w.heap.size) (l : List Int) (p g cap : Nat) (hS : ScW l p X g cap w) : ScW l p X g cap (w.alloc (.cells sixV 3)) ∧ (w.alloc (.cells sixV 3)).heap[w.heap.size]? = some (.cells sixV 3 (0, 0)) ∧ SK X w (w.alloc (.cells sixV 3)) := by
  have hb := (Below.refl w.heap.size w).alloc (Nat.le_refl _) (.cells sixV 3)
  exact ⟨hS.keep hb, heap_alloc_new _ _, SK.below hb (Nat.le_of_lt h)⟩
theorem run_st {l : List Int} {p X g cap : Nat} {a : Option Addr} {c : Nat} {w0 : World} (w : World) (h : St l p X g cap a c w0 w) :
    Calls Tryd.prog 86 #[.pointer (some ⟨X, 0, none⟩), .slice (some ⟨w.heap.size, 0, none⟩) 6 6] (w.alloc (.cells sixV 3)) fun e w' => e = .returned (.string (tBytes (l.drop p))) ∧ St l l.length X g cap a c w0 w' := by
  obtain ⟨hs6, hc6, hk6⟩ := six_alloc h.1.lt l p g cap h.1
  have h2 : St l p X g cap a c w0 (w.alloc (.cells sixV 3)) := h.below ((Below.refl w.heap.size w).alloc (Nat.le_refl _) (.cells sixV 3))
  have hne : w.heap.size ≠ X := by have := h.1.lt; omega
  refine (run_six l p X g cap w.heap.size _ hs6 h.2.2.2.2.1 (by have := h.2.2.2.2.2; omega) hc6 hne).mono ?_
  intro e w' hm
  exact h2.moved hm
theorem run_std {l : List Int} {p X g cap : Nat} {a : Option Addr} {c : Nat} {w0 : World} (w : World) (h : St l p X g cap a c w0 w) :
    Calls Tryd.prog 86 #[.pointer (some ⟨X, 0, none⟩), .slice (some ⟨w.heap.size, 0, none⟩) 6 6] (w.alloc (.cells sixV 3)).drew fun e w' => e = .returned (.string (tBytes (l.drop p))) ∧ St l l.length X g cap a c w0 w' := by
  obtain ⟨hs6, hc6, hk6⟩ := six_alloc h.1.lt l p g cap h.1
  have h2 : St l p X g cap a c w0 (w.alloc (.cells sixV 3)).drew := (h.below ((Below.refl w.heap.size w).alloc (Nat.le_refl _) (.cells sixV 3))).drew
  have hne : w.heap.size ≠ X := by have := h.1.lt; omega
  refine (run_six l p X g cap w.heap.size _ h2.1 h.2.2.2.2.1 (by have := h.2.2.2.2.2; omega) hc6 hne).mono ?_
  intro e w' hm
  exact h2.moved hm
theorem text_st {l : List Int} {p X g cap : Nat} {a : Option Addr} {c : Nat} {w0 : World} (k : Nat) (a' : Option Addr) (c' : Nat) (w : World) (h : St l p X g cap a c w0 w) (hcl : ∀ w, SgAt l a c X w → ClsAt (l.drop k) a' (l.length - k) X w) :
    Calls Tryd.prog 41 #[.slice a' (l.length - k) c'] w fun e w' => e = .returned (.string (tBytes (l.drop k))) ∧ St l p X g cap a c w0 w' := by
  refine (text_any (l.drop k) a' (l.length - k) c' X w (hcl w h.2.1) (fun x hx => h.2.2.2.2.1 x (List.mem_of_mem_drop hx)) (by have := h.2.2.2.2.2; omega)).mono ?_
  rintro e w' ⟨rfl, hb⟩
  exact ⟨rfl, h.below hb⟩
theorem end_st {l : List Int} {X g cap : Nat} {a : Option Addr} {c : Nat} {w0 : World} (w : World) (h : St l l.length X g cap a c w0 w) : Calls Tryd.prog 43 #[.pointer (some ⟨X, 0, none⟩)] w fun e w' => e = .returned (.bool true) ∧ St l l.length X g cap a c w0 w' := by
  refine (end_yes l _ X g cap _ h.1 rfl).mono ?_
  rintro e w' ⟨rfl, hb⟩
  exact ⟨rfl, h.below hb⟩
theorem back_st {l : List Int} {p X g cap : Nat} {a : Option Addr} {c : Nat} {w0 : World} (q : Nat) (w : World) (h : St l p X g cap a c w0 w) (hq : q ≤ l.length) : Calls Tryd.prog 11 #[.pointer (some ⟨X, 0, none⟩), .int .i64 q] w fun e w' => e = .returned (.bool true) ∧ St l q X g cap a c w0 w' := by
  refine (back_yes l p q X g cap _ h.1 hq).mono ?_
  intro e w' hm
  exact h.moved hm
theorem nback_st {l : List Int} {p X g cap : Nat} {a : Option Addr} {c : Nat} {w0 : World} (n : Int) (w : World) (h : St l p X g cap a c w0 w) (hq : n < 0 ∨ (l.length : Int) < n) : Calls Tryd.prog 11 #[.pointer (some ⟨X, 0, none⟩), .int .i64 n] w fun e w' => e = .returned (.bool false) ∧ St l p X g cap a c w0 w' := by
  refine (back_no l p X g cap n _ h.1 hq).mono ?_
  intro e w' hm
  exact h.moved hm
end Go.Proofs.YtbchkhjkajagfaaDoor
namespace Go.Proofs.YtbchkhjkajagfaaDoor
open Go Go.RowKit
set_option maxRecDepth 100000
set_option linter.unusedVariables false
/-- where a sign stands first (the length: nowhere) -/
def ix (v : Int) : List Int → Nat
  | [] => 0
  | n :: t => if n = v then 0 else ix v t + 1
theorem ix_le (v : Int) (l : List Int) : ix v l ≤ l.length := by
  induction l with
  | nil => exact Nat.le_refl _
  | cons n t ih => unfold ix; split <;> simp <;> omega
theorem ix_lt (v : Int) (l : List Int) : ∀ q (h : q < l.length), q < ix v l → l[q]'h ≠ v := by
  induction l with
  | nil => intro q h; simp at h
  | cons n t ih =>
    intro q h hq
    unfold ix at hq
    split at hq
    · omega
    · rcases q with _ | q
      · simpa using (by assumption)
      · simpa using ih q (by simpa using h) (by omega)
theorem ix_at (v : Int) (l : List Int) : ∀ (h : ix v l < l.length), l[ix v l]'h = v := by
  induction l with
  | nil => intro h; simp at h
  | cons n t ih =>
    intro h
    by_cases hn : n = v
    · have e : ix v (n :: t) = 0 := by show (if n = v then 0 else ix v t + 1) = 0; rw [if_pos hn]
      simp only [e]
      exact hn
    · have e : ix v (n :: t) = ix v t + 1 := by show (if n = v then 0 else ix v t + 1) = _; rw [if_neg hn]
      simp only [e] at h ⊢
      simpa using ih (by simpa using h)
def ixV (v : Int) (l : List Int) : Int := if ix v l < l.length then (ix v l : Int) else -1
theorem slice_from (g n cap p : Nat) (hp : p ≤ n) (hc : n ≤ cap) (w : World) :
    (Instr.slice 79 (.slice (some ⟨g, 0, none⟩) n cap) (some (.int .i64 p)) none none).run Tryd.prog w = .ok (.slice (some (partA g cap p)) (n - p) (cap - p)) w := by
  rw [← partA_some]
  go_simp
end Go.Proofs.YtbchkhjkajagfaaDoor
namespace Go.Proofs.YtbchkhjkajagfaaDoor
open Go Go.RowKit
set_option maxRecDepth 100000
set_option linter.unusedVariables false
theorem tBytes_add (a b : List Int) : tBytes a ++ tBytes b = tBytes (a ++ b) := by
  unfold tBytes
  exact bytes_eq (by rw [join_data]; simp [textB_append])
theorem tBytes_size (a : List Int) : (tBytes a).size ≤ 4 * a.length := by
  have := textB_le a
  simpa [tBytes, ByteArray.size] using this
theorem add_t (a b : List Int) (ha : a.length ≤ 1000000) (hb : b.length ≤ 1000000) (w : World) : (Op.stringOp .add (tBytes a) (tBytes b)).run Tryd.prog w = .ok (.string (tBytes (a ++ b))) w := by
  have h1 := tBytes_size a
  have h2 := tBytes_size b
  rw [run_string_add w _ _ (by omega) (by omega), tBytes_add]
theorem one_st {l : List Int} {p X g cap : Nat} {a : Option Addr} {c : Nat} {w0 : World} (v : Int) (hv : SignP v) (w : World) (h : St l p X g cap a c w0 w) :
    Calls Tryd.prog 41 #[.slice (some ⟨w.heap.size, 0, none⟩) 1 1] (w.alloc (.cells #[.int .i64 v] 3)) fun e w' => e = .returned (.string (tBytes [v])) ∧ St l p X g cap a c w0 w' := by
  have h2 : St l p X g cap a c w0 (w.alloc (.cells #[.int .i64 v] 3)) := (h.below ((Below.refl w.heap.size w).alloc (Nat.le_refl _) (.cells #[.int .i64 v] 3)))
  have hne : w.heap.size ≠ X := by have := h.1.lt; omega
  have hc : (w.alloc (.cells #[.int .i64 v] 3)).heap[w.heap.size]? = some (.cells #[.int .i64 v] 3 (0, 0)) := heap_alloc_new _ _
  refine (text_any [v] _ 1 1 X _ ⟨rfl, .inr ⟨w.heap.size, 0, rfl, hne, lt_of_block hc, fun j hj => ?_⟩⟩ (by simpa using hv) (by omega)).mono ?_
  · obtain rfl : j = 0 := by simpa using hj
    rw [Lib.cell_of_heap hc]
    rfl
  · rintro e w' ⟨rfl, hb⟩
    exact ⟨rfl, h2.below hb⟩
end Go.Proofs.YtbchkhjkajagfaaDoor
