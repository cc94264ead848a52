/- The contract of package scan's Quote over this seat's program: any text, quoted. -/
import Derived.Test.YteicjmippeobpaaDoorScHex
import Derived.Test.YteicjmippeobpaaDoorScBuilder
import Derived.Deep.LoopGhost
import Derived.BigCall
import Derived.WalkMore
namespace Go.Proofs.YteicjmippeobpaaDoor
open Go Go.RowKit
/-- the letter behind a backslash that stands for a sign; 0: none does -/
def letterV (n : Int) : Int := if n = 9 then 116 else if n = 10 then 110 else if n = 13 then 114 else if n = 8 then 98 else if n = 12 then 102 else if n = 34 then 34 else if n = 92 then 92 else 0
def hexd (d : Int) : UInt8 := if d < 10 then (48 + d).toNat.toUInt8 else (55 + d).toNat.toUInt8
/-- a sign, as it stands in quotation marks -/
def qsign (n : Int) : List UInt8 := if letterV n ≠ 0 then [92, (letterV n).toNat.toUInt8] else if classV n = 4 then [92, 117, 48, 48, hexd (n / 16), hexd (n % 16)] else enc n
def quoteIn (l : List Int) : List UInt8 := 34 :: l.flatMap qsign
def quoteB (l : List Int) : List UInt8 := quoteIn l ++ [34]
theorem qsign_len (n : Int) : 1 ≤ (qsign n).length ∧ (qsign n).length ≤ 6 := by
  unfold qsign
  have := enc_pos n
  split
  · simp
  · split
    · simp
    · omega
theorem quoteIn_snoc (l : List Int) (n : Int) : quoteIn (l ++ [n]) = quoteIn l ++ qsign n := by unfold quoteIn; rw [List.flatMap_append]; simp
theorem quoteIn_len (l : List Int) : (quoteIn l).length ≤ 6 * l.length + 1 := by
  induction l with
  | nil => simp [quoteIn]
  | cons n l ih =>
    have := (qsign_len n).2
    simp only [quoteIn, List.flatMap_cons, List.length_cons, List.length_append] at ih ⊢
    omega
/-- the table, as it lies in memory: a letter, its sign, and so on -/
def escT : List Int := [116, 9, 110, 10, 114, 13, 98, 8, 102, 12, 34, 34, 92, 92, 39, 39]
def Esc (w : World) : Prop := ∀ j, j < 16 → w.cell? ⟨0, j, none⟩ = some (.int .i32 (escT.getD j 0))
theorem Esc.below {w w' : World} (h : Esc w) {B : Nat} (hB : 0 < B) (hb : Below B w w') : Esc w' := fun j hj => (hb.cell (p := ⟨0, j, none⟩) hB).trans (h j hj)
theorem Esc.lt {w : World} (h : Esc w) : 0 < w.heap.size := block_lt_of_cell (h 0 (by omega))
/-- what the loops keep: the builder with its bytes, the iterator at its place, what lay before -/
def QW (s : ByteArray) (B I : Nat) (w : World) (bs : List UInt8) (q : Nat) (wr : World) : Prop :=
  Lib.IsBuilderF 60 5 B B (Lib.byteCells bs) wr ∧ wr.heap[I]? = some (.stringIter s q) ∧ Below B w wr ∧ B < I
theorem QW.alloc {s : ByteArray} {B I : Nat} {w : World} {bs : List UInt8} {q : Nat} {wr : World} (h : QW s B I w bs q wr) (hB : B ≤ w.heap.size) (o : Obj) : QW s B I w bs q (wr.alloc o) := by
  obtain ⟨h1, h2, h3, h4⟩ := h
  exact ⟨h1.alloc o, (Below.heap_alloc wr o I (Array.getElem?_eq_some_iff.1 h2).1).trans h2, h3.alloc (Nat.le_trans hB h3.size) o, h4⟩
theorem QW.step {s : ByteArray} {B I : Nat} {w : World} {bs bs' : List UInt8} {q : Nat} {wr w' : World} (h : QW s B I w bs q wr) (hw : BuilderW B B (Lib.byteCells bs') wr w') : QW s B I w bs' q w' := by
  obtain ⟨h1, h2, h3, h4⟩ := h
  obtain ⟨g1, g2, g3⟩ := hw
  exact ⟨.inr g1, g3.iter h2 (by omega), h3.trans g2, h4⟩
theorem QW.next {s : ByteArray} {B I : Nat} {w : World} {bs : List UInt8} {q : Nat} {wr : World} (h : QW s B I w bs q wr) (q' : Nat) : QW s B I w bs q' (wr.iterAt I s q') := by
  obtain ⟨h1, h2, h3, h4⟩ := h
  exact ⟨h1.iterAt h2 q', Lib.iterAt_heap wr I s q q' h2, Lib.below_iterAt h3 (by omega) s q', h4⟩
theorem cells_one (bs : List UInt8) (b : UInt8) (c : Int) (h : (b.toNat : Int) = c) : Lib.byteCells bs ++ [.int .u8 c] = Lib.byteCells (bs ++ [b]) := by
  rw [Lib.byteCells_append]; simp [Lib.byteCells, h]
theorem cells_rune (bs : List UInt8) (n : Int) : Lib.byteCells bs ++ Lib.runeCells n = Lib.byteCells (bs ++ enc n) := by
  rw [Lib.byteCells_append]; unfold enc; rw [Lib.byteCells_encodeRune]
/-- the sign of the table's place -/
def escS (j : Nat) : Int := escT.getD (2 * j + 1) 0
def escL (j : Nat) : Int := escT.getD (2 * j) 0
theorem esc_hit {n : Int} {j : Nat} (hj : j < 7) (h : escS j = n) : letterV n = escL j ∧ SignP (escL j) ∧ enc (escL j) = [(letterV n).toNat.toUInt8] ∧ letterV n ≠ 0 := by
  subst h
  rcases (by omega : j = 0 ∨ j = 1 ∨ j = 2 ∨ j = 3 ∨ j = 4 ∨ j = 5 ∨ j = 6) with rfl | rfl | rfl | rfl | rfl | rfl | rfl
  all_goals decide
theorem esc_miss {n : Int} (h : ∀ j, j < 7 → escS j ≠ n) : letterV n = 0 := by
  have h0 := h 0 (by omega)
  have h1 := h 1 (by omega)
  have h2 := h 2 (by omega)
  have h3 := h 3 (by omega)
  have h4 := h 4 (by omega)
  have h5 := h 5 (by omega)
  have h6 := h 6 (by omega)
  simp only [escS, escT] at h0 h1 h2 h3 h4 h5 h6
  simp at h0 h1 h2 h3 h4 h5 h6
  unfold letterV
  rw [if_neg (by omega), if_neg (by omega), if_neg (by omega), if_neg (by omega), if_neg (by omega), if_neg (by omega), if_neg (by omega)]
theorem upper_at (d : Int) (h0 : 0 ≤ d) (h1 : d < 16) (h : d.toNat < (⟨#[48, 49, 50, 51, 52, 53, 54, 55, 56, 57, 65, 66, 67, 68, 69, 70]⟩ : ByteArray).size) : (((⟨#[48, 49, 50, 51, 52, 53, 54, 55, 56, 57, 65, 66, 67, 68, 69, 70]⟩ : ByteArray)[d.toNat]'h).toNat) = (hexd d).toNat := by
  obtain ⟨m, rfl⟩ := Int.eq_ofNat_of_zero_le h0
  have hm : m < 16 := by omega
  clear h0 h1
  rcases (by omega : m = 0 ∨ m = 1 ∨ m = 2 ∨ m = 3 ∨ m = 4 ∨ m = 5 ∨ m = 6 ∨ m = 7 ∨ m = 8 ∨ m = 9 ∨ m = 10 ∨ m = 11 ∨ m = 12 ∨ m = 13 ∨ m = 14 ∨ m = 15) with rfl | rfl | rfl | rfl | rfl | rfl | rfl | rfl | rfl | rfl | rfl | rfl | rfl | rfl | rfl | rfl
  all_goals rfl
theorem upper_byte (d : Int) (x : UInt8) (h0 : 0 ≤ d) (h1 : d < 16) (hx : x = hexd d) (h : d.toNat < (⟨#[48, 49, 50, 51, 52, 53, 54, 55, 56, 57, 65, 66, 67, 68, 69, 70]⟩ : ByteArray).size) : ((x.toNat : Nat) : Int) = (((⟨#[48, 49, 50, 51, 52, 53, 54, 55, 56, 57, 65, 66, 67, 68, 69, 70]⟩ : ByteArray)[d.toNat]'h).toNat : Int) := by
  rw [hx, upper_at d h0 h1 h]
set_option maxHeartbeats 6400000 in
set_option maxRecDepth 100000 in
theorem quote_any (s : ByteArray) (l : List Int) (w : World) (h : Read s.data.toList l []) (hs : s.size ≤ 1048576) (he : Esc w) :
    Calls Tryd.prog 15 #[.string s] w fun e w' => e = .returned (.string ⟨(quoteB l).toArray⟩) ∧ Below w.heap.size w w' := by
  have HR := Lib.hid h
  have hll : l.length ≤ s.size := read_len h
  have hw0 := he.lt
  have HE := Lib.hid he
  clear h he
  go_enter Tryd.func15, Tryd.ntmps15
  go_wp2_with fail
  go_step3
  go_wp2_with fail
  refine (writeByte_any w.heap.size w.heap.size [] 34 _ (Lib.IsBuilderF.of (Lib.fresh_isBuilder 60 5 w)) (by simp) (by simp)).mono ?_
  rintro e w1 ⟨rfl, hI, hb, hk⟩
  have hs1 : w.heap.size < w1.heap.size := by
    have := hI.2
    obtain ⟨v, hbk, _⟩ := this
    exact (Array.getElem?_eq_some_iff.1 hbk).1
  have HQ0 : Hid (QW s w.heap.size w1.heap.size w (quoteIn (l.take 0)) 0 (w1.iter s 0)) := Lib.hid ⟨.inr (Lib.BuilderAtF.alloc hI _), World.iter_heap w1 s 0, (((Below.refl _ w).alloc (Nat.le_refl _) _).trans hb).alloc (by omega) _, hs1⟩
  clear hI hb hk
  generalize hIb : w1.heap.size = I at *
  go_wp2_with fail
  go_step3
  go_wp2_with fail
  go_loopg [] l.length (fun g wx => ∃ k q : Nat, k + g = l.length ∧ Hid (q = (textB (l.take k)).length) ∧ Hid (QW s w.heap.size I w (quoteIn (l.take k)) q wx))
  case atStart => exact ⟨0, 0, by omega, Lib.hid rfl, HQ0⟩
  case round =>
    obtain ⟨k, q, hk, HQ, HW⟩ := hrel
    clear HQ0
    have hit := HW.out.2.1
    by_cases hlt : k < l.length
    · have hq := (read_here HR.out hlt).2.2
      rw [← HQ.out] at hq
      have hnx : ∀ ty, (Instr.next (.pointer (some ⟨I, 0, none⟩)) true ty).run Tryd.prog wr = _ := fun ty => Lib.run_next_any_at wr I s q ty hit hq
      rw [decode_here HR.out hlt HQ.out] at hnx
      have hn := (read_here HR.out hlt).1
      have hn0 : (((l[k]'hlt).toNat : Nat) : Int) = l[k]'hlt := by unfold SignP at hn; omega
      rw [hn0] at hnx
      have HN : Hid (q + (enc (l[k]'hlt)).length = (textB (l.take (k + 1))).length) := Lib.hid (by rw [read_next HR.out hlt, ← HQ.out])
      have HT : Hid (quoteIn (l.take (k + 1)) = quoteIn (l.take k) ++ qsign (l[k]'hlt)) := Lib.hid (by rw [List.take_succ_eq_append_getElem hlt, quoteIn_snoc])
      have hql : (quoteIn (l.take k)).length ≤ 6 * k + 1 := by have := quoteIn_len (l.take k); rw [List.length_take] at this; omega
      have HX := Lib.hid (HW.out.next (q + (enc (l[k]'hlt)).length))
      have hn1 : 0 ≤ l[k]'hlt ∧ l[k]'hlt ≤ 1114111 := by unfold SignP at hn; omega
      have HS := Lib.hid hn
      clear hn hn0 hit HW HQ hq
      generalize q + (enc (l[k]'hlt)).length = q' at hnx HN HX
      generalize quoteIn (l.take k) = bs at HT hql HX
      obtain ⟨n, hnn⟩ : ∃ n, n = l[k]'hlt := ⟨_, rfl⟩
      rw [← hnn] at hnx HT hn1 HS
      clear hnn
      obtain ⟨W1, hW1⟩ : ∃ W1, W1 = wr.iterAt I s q' := ⟨_, rfl⟩
      rw [← hW1] at hnx HX
      clear hW1
      obtain ⟨m0, m1⟩ := hn1
      go_wp2_with fail
      clear hnx
      have hE : ∀ wy, Below w.heap.size w wy → Esc wy := fun wy hb => HE.out.below hw0 hb
      have HEs := Lib.hid hE
      clear hE
      go_loopg [17] 7 (fun g2 s17 wy => ∃ j : Nat, j + g2 = 7 ∧ s17 = .int .i64 j ∧ Hid (∀ i, i < j → escS i ≠ n) ∧ Hid (QW s w.heap.size I w bs q' wy))
      case atStart => exact ⟨0, by omega, rfl, Lib.hid (fun i hi => by omega), HX⟩
      case round =>
        obtain ⟨j, hj, rfl, HM, HY⟩ := hrel
        clear HX
        by_cases hj7 : j < 7
        · have hes := HEs.out wr HY.out.2.2.1
          have c0 : wr.cell? ⟨0, j * 2, none⟩ = some (.int .i32 (escL j)) := by have := hes (2 * j) (by omega); rw [Nat.mul_comm]; exact this
          have c1 : wr.cell? ⟨0, j * 2 + 1, none⟩ = some (.int .i32 (escS j)) := by have := hes (2 * j + 1) (by omega); rw [Nat.mul_comm]; exact this
          clear hes
          have HY2 := Lib.hid (HY.out.alloc (Nat.le_refl _) (.cells #[.int .i32 (escL j), .int .i32 (escS j)] 65))
          have hB := HY.out.2.2.1.size
          have hIl : I < wr.heap.size := (Array.getElem?_eq_some_iff.1 HY.out.2.1).1
          by_cases hh : escS j = n
          · obtain ⟨e1, e2, e3, e4⟩ := esc_hit hj7 hh
            have HQs : Hid (quoteIn (l.take (k + 1)) = bs ++ [92] ++ enc (escL j)) := Lib.hid (by rw [HT.out]; unfold qsign; rw [if_pos e4, e3, List.append_assoc]; rfl)
            have E2 := Lib.hid e2
            have ht : (escS j == n) = true := by simp [hh]
            clear e1 e2 e3 e4 hh HM
            generalize escS j = sj at c1 ht HY2
            generalize escL j = lj at c0 HY2 HQs E2
            have hblk : (wr.alloc (.cells #[.int .i32 lj, .int .i32 sj] 65)).heap[wr.heap.size]? = some (.cells #[.int .i32 lj, .int .i32 sj] 65 (0, 0)) := heap_alloc_new _ _
            have HBK := Lib.hid hblk
            clear hblk
            go_wp2_with fail
            refine (writeByte_any w.heap.size w.heap.size (Lib.byteCells bs) 92 _ HY2.out.1 (by rw [Lib.byteCells_length]; omega) (by simp; omega)).mono ?_
            rintro e w2 ⟨rfl, hw2⟩
            rw [cells_one bs 92 92 rfl] at hw2
            have HY3 := Lib.hid (HY2.out.step hw2)
            have hk2 := hw2.2.2 _ _ HBK.out (fun e => by injection e with e; omega) (fun c fz e => by injection e with _ h _; exact absurd h (by decide))
            have d0 : w2.cell? ⟨wr.heap.size, 0, none⟩ = some (.int .i32 lj) := by rw [Lib.cell_of_heap hk2]; rfl
            have hB2 := HY3.out.2.2.1.size
            clear hw2 hk2 c0 c1 HBK
            go_wp2_with fail
            refine (writeRune_any w.heap.size w.heap.size (Lib.byteCells (bs ++ [92])) lj E2.out _ HY3.out.1 (by rw [Lib.byteCells_length, List.length_append]; simp; omega) hB2).mono ?_
            rintro e w3 ⟨rfl, hw3⟩
            rw [cells_rune] at hw3
            have HY4 := Lib.hid (HY3.out.step hw3)
            clear hw3
            rw [← HQs.out] at HY4
            go_wp2_with fail
            go_roundg (l.length - (k + 1))
            case measure => omega
            case rel => exact ⟨k + 1, q', by omega, HN, HY4⟩
          · have ht : (escS j == n) = false := beq_eq_false_iff_ne.mpr hh
            have HM2 : Hid (∀ i, i < j + 1 → escS i ≠ n) := Lib.hid (fun i hi => by
              by_cases h2 : i < j
              · exact HM.out i h2
              · obtain rfl : i = j := by omega
                exact hh)
            clear hh HM
            generalize escS j = sj at c1 ht HY2
            generalize escL j = lj at c0 HY2
            go_wp2_with fail
            go_roundg (gk - 1)
            case measure => omega
            case rel => exact ⟨j + 1, by omega, by go_num, HM2, HY2⟩
        · obtain rfl : j = 7 := by omega
          have HL := Lib.hid (esc_miss HM.out)
          clear HM
          have hB := HY.out.2.2.1.size
          by_cases h4 : classV n = 4
          · have HQs : Hid (quoteIn (l.take (k + 1)) = bs ++ [92, 117] ++ [48, 48, hexd (n / 16), hexd (n % 16)]) := Lib.hid (by rw [HT.out]; unfold qsign; rw [if_neg (by rw [HL.out]; simp), if_pos h4, List.append_assoc]; rfl)
            have h160 : n < 160 := by unfold classV at h4; (repeat' split at h4) <;> omega
            have H4 := Lib.hid h4
            clear h4 HL
            go_wp2_with fail
            refine (class_any n _ (by omega) (by omega)).mono ?_
            rintro e w' ⟨rfl, rfl⟩
            rw [H4.out]
            go_wp2_with fail
            refine (writeString_any w.heap.size w.heap.size (Lib.byteCells bs) ⟨#[92, 117]⟩ _ HY.out.1 (by rw [Lib.byteCells_length]; show bs.length + 2 ≤ _; omega) hB).mono ?_
            rintro e w2 ⟨rfl, hw2⟩
            rw [show Lib.byteCells bs ++ Lib.strCells ⟨#[92, 117]⟩ = Lib.byteCells (bs ++ [92, 117]) from by rw [Lib.byteCells_append]; rfl] at hw2
            have HY3 := Lib.hid (HY.out.step hw2)
            clear hw2
            go_wp2_with fail
            go_loopg [8] 4 (fun g3 s8 wz => ∃ j : Nat, j + g3 = 4 ∧ s8 = .int .i64 (3 - j) ∧ Hid (QW s w.heap.size I w (bs ++ [92, 117] ++ [48, 48, hexd (n / 16), hexd (n % 16)].take j) q' wz))
            case atStart => exact ⟨0, by omega, rfl, Lib.hid (by rw [List.take_zero, List.append_nil]; exact HY3.out)⟩
            case round =>
              obtain ⟨j, hj, rfl, HZ⟩ := hrel
              clear HY HY3
              have hB2 := HZ.out.2.2.1.size
              rcases (by omega : j = 0 ∨ j = 1 ∨ j = 2 ∨ j = 3 ∨ j = 4) with rfl | rfl | rfl | rfl | rfl
              · go_wp2_with fail
                refine (writeByte_any w.heap.size w.heap.size _ _ _ HZ.out.1 (by rw [Lib.byteCells_length]; simp; omega) hB2).mono ?_
                rintro e w5 ⟨rfl, hw5⟩
                rw [cells_one _ (48) _ (upper_byte (n / 4096 % 16) _ (by omega) (by omega) (by rw [show n / 4096 % 16 = 0 from by omega]; rfl) _), List.append_assoc] at hw5
                have HZ2 : Hid (QW s w.heap.size I w (bs ++ [92, 117] ++ [48, 48, hexd (n / 16), hexd (n % 16)].take 1) q' w5) := Lib.hid (HZ.out.step hw5)
                clear hw5 HZ
                go_wp2_with fail
                go_roundg 3
                case measure => omega
                case rel => exact ⟨1, by omega, by go_num, HZ2⟩
              · go_wp2_with fail
                refine (writeByte_any w.heap.size w.heap.size _ _ _ HZ.out.1 (by rw [Lib.byteCells_length]; simp; omega) hB2).mono ?_
                rintro e w5 ⟨rfl, hw5⟩
                rw [cells_one _ (48) _ (upper_byte (n / 256 % 16) _ (by omega) (by omega) (by rw [show n / 256 % 16 = 0 from by omega]; rfl) _), List.append_assoc] at hw5
                have HZ2 : Hid (QW s w.heap.size I w (bs ++ [92, 117] ++ [48, 48, hexd (n / 16), hexd (n % 16)].take 2) q' w5) := Lib.hid (HZ.out.step hw5)
                clear hw5 HZ
                go_wp2_with fail
                go_roundg 2
                case measure => omega
                case rel => exact ⟨2, by omega, by go_num, HZ2⟩
              · go_wp2_with fail
                refine (writeByte_any w.heap.size w.heap.size _ _ _ HZ.out.1 (by rw [Lib.byteCells_length]; simp; omega) hB2).mono ?_
                rintro e w5 ⟨rfl, hw5⟩
                rw [cells_one _ (hexd (n / 16)) _ (upper_byte (n / 16 % 16) _ (by omega) (by omega) (by rw [show n / 16 % 16 = n / 16 from by omega]) _), List.append_assoc] at hw5
                have HZ2 : Hid (QW s w.heap.size I w (bs ++ [92, 117] ++ [48, 48, hexd (n / 16), hexd (n % 16)].take 3) q' w5) := Lib.hid (HZ.out.step hw5)
                clear hw5 HZ
                go_wp2_with fail
                go_roundg 1
                case measure => omega
                case rel => exact ⟨3, by omega, by go_num, HZ2⟩
              · go_wp2_with fail
                refine (writeByte_any w.heap.size w.heap.size _ _ _ HZ.out.1 (by rw [Lib.byteCells_length]; simp; omega) hB2).mono ?_
                rintro e w5 ⟨rfl, hw5⟩
                rw [cells_one _ (hexd (n % 16)) _ (upper_byte (n % 16) _ (by omega) (by omega) (rfl) _), List.append_assoc] at hw5
                have HZ2 : Hid (QW s w.heap.size I w (bs ++ [92, 117] ++ [48, 48, hexd (n / 16), hexd (n % 16)].take 4) q' w5) := Lib.hid (HZ.out.step hw5)
                clear hw5 HZ
                go_wp2_with fail
                go_roundg 0
                case measure => omega
                case rel => exact ⟨4, by omega, by go_num, HZ2⟩
              · have HY4 : Hid (QW s w.heap.size I w (quoteIn (l.take (k + 1))) q' wr) := Lib.hid (by rw [HQs.out]; exact HZ.out)
                clear HZ
                go_wp2_with fail
                go_roundg (l.length - (k + 1))
                case measure => omega
                case rel => exact ⟨k + 1, q', by omega, HN, HY4⟩
          · have HQs : Hid (quoteIn (l.take (k + 1)) = bs ++ enc n) := Lib.hid (by rw [HT.out]; unfold qsign; rw [if_neg (by rw [HL.out]; simp), if_neg h4])
            have h4' : (classV n != 4) = true := by simpa using h4
            clear h4 HL
            go_wp2_with fail
            refine (class_any n _ (by omega) (by omega)).mono ?_
            rintro e w' ⟨rfl, rfl⟩
            go_wp2_with fail
            refine (writeRune_any w.heap.size w.heap.size (Lib.byteCells bs) n HS.out _ HY.out.1 (by rw [Lib.byteCells_length]; omega) hB).mono ?_
            rintro e w3 ⟨rfl, hw3⟩
            rw [cells_rune] at hw3
            have HY4 := Lib.hid (HY.out.step hw3)
            clear hw3
            rw [← HQs.out] at HY4
            go_wp2_with fail
            go_roundg (l.length - (k + 1))
            case measure => omega
            case rel => exact ⟨k + 1, q', by omega, HN, HY4⟩
    · have hkl : k = l.length := by omega
      have hqe : ¬ q < s.size := by
        have h1 := HR.out.1
        rw [List.append_nil] at h1
        have h2 : s.size = (textB l).length := by rw [← h1]; rfl
        rw [HQ.out, hkl, List.take_length, h2]; omega
      have hnx : ∀ ty, (Instr.next (.pointer (some ⟨I, 0, none⟩)) true ty).run Tryd.prog wr = _ := fun ty => Lib.run_next_end_at wr I s q ty hit hqe
      have HZ : Hid (QW s w.heap.size I w (quoteIn l) q wr) := Lib.hid (by have := HW.out; rw [hkl, List.take_length] at this; exact this)
      have hB := HZ.out.2.2.1.size
      have hql := quoteIn_len l
      clear hkl hqe HW HQ hit
      go_wp2_with fail
      refine (writeByte_any w.heap.size w.heap.size _ 34 _ HZ.out.1 (by rw [Lib.byteCells_length]; omega) hB).mono ?_
      rintro e w2 ⟨rfl, hw2⟩
      rw [cells_one _ 34 34 rfl] at hw2
      have HZ2 := Lib.hid (HZ.out.step hw2)
      have hB2 := HZ2.out.2.2.1.size
      clear hw2 hnx HZ
      go_wp2_with fail
      refine (Tryd.Builder_String_any_k w.heap.size w.heap.size (quoteIn l ++ [34]) _ HZ2.out.1 hB2).mono ?_
      rintro e w3 ⟨rfl, _, hb3, _⟩
      have HF := Lib.hid (HZ2.out.2.2.1.trans hb3)
      clear hb3 HZ2
      go_wp2_with fail
      try rw [Exit.noGoto_ret]
      go_ret
      exact ⟨rfl, HF.out⟩
end Go.Proofs.YteicjmippeobpaaDoor
