/- The contract of the reference's Quote over this seat's program: any signs, quoted. -/
import Derived.Test.YtbchkhjkajagfaaGreatDoorScBack
import Derived.Deep.RegionWith
import Derived.Deep.RegionLaw
import Derived.Deep.AppendLies
namespace Go.Proofs.YtbchkhjkajagfaaGreatDoor
open Go Go.RowKit
set_option maxRecDepth 100000
set_option linter.unusedVariables false
theorem own_first (w : World) (x : Value) : (w.alloc (.cells #[x] 5)).ownsRow w.heap.size 5 1 (.slice (some ⟨w.heap.size, 0, none⟩) 1 1) 1 [x] :=
  ⟨rfl, .inr ⟨w.heap.size, 1, #[x], rfl, Nat.le_refl _, heap_alloc_new _ _, Nat.le_refl _, by decide, rfl, rfl⟩⟩
theorem two_new (w : World) (x y : Value) : ∀ (j : Nat) (u : Value), ([x, y] : List Value)[j]? = some u → (w.alloc (.cells #[x, y] 5)).cell? ((⟨w.heap.size, 0, none⟩ : Addr).add j) = some u := by
  intro j u hj
  have e : (⟨w.heap.size, 0, none⟩ : Addr).add j = ⟨w.heap.size, j, none⟩ := by
    unfold Addr.add
    split
    · subst_vars; rfl
    · simp
  rw [e, Lib.cell_of_heap (heap_alloc_new _ _)]
  simpa using hj
theorem upper_run (d : Int) (h0 : 0 ≤ d) (h1 : d < 16) (w : World) : (Instr.index 9 (.string ⟨#[48, 49, 50, 51, 52, 53, 54, 55, 56, 57, 65, 66, 67, 68, 69, 70]⟩) (.int .i64 d)).run Tryz.prog w = .ok (.int .u8 (hexI d)) w := by
  obtain ⟨m, rfl⟩ := Int.eq_ofNat_of_zero_le h0
  have hm : m < 16 := by omega
  clear h0 h1
  rcases (by omega : m = 0 ∨ m = 1 ∨ m = 2 ∨ m = 3 ∨ m = 4 ∨ m = 5 ∨ m = 6 ∨ m = 7 ∨ m = 8 ∨ m = 9 ∨ m = 10 ∨ m = 11 ∨ m = 12 ∨ m = 13 ∨ m = 14 ∨ m = 15) with rfl | rfl | rfl | rfl | rfl | rfl | rfl | rfl | rfl | rfl | rfl | rfl | rfl | rfl | rfl | rfl
  all_goals rfl
theorem cells_two (y : Int) (y0 : 0 ≤ y) (y1 : y ≤ 255) : Lib.byteCells [92, y.toNat.toUInt8] = [.int .u8 92, .int .u8 y] := by
  obtain ⟨n, rfl⟩ := Int.eq_ofNat_of_zero_le y0
  have h : (UInt8.ofNat n).toNat = n := UInt8.toNat_ofNat_of_lt' (show n < 256 by omega)
  show [Value.int .u8 92, Value.int .u8 (((UInt8.ofNat n).toNat : Nat) : Int)] = _
  rw [h]
theorem cells_six (a b : Int) (a0 : 0 ≤ a) (a1 : a < 16) (b0 : 0 ≤ b) (b1 : b < 16) : Lib.byteCells [92, 117, 48, 48, hexd a, hexd b] = [.int .u8 92, .int .u8 117, .int .u8 48, .int .u8 48, .int .u8 (hexI a), .int .u8 (hexI b)] := by
  have h := fun (d : Int) (h0 : 0 ≤ d) (h1 : d < 16) => show (((hexd d).toNat : Nat) : Int) = hexI d by
    obtain ⟨n, rfl⟩ := Int.eq_ofNat_of_zero_le h0
    have hn : n < 16 := by omega
    rcases (by omega : n = 0 ∨ n = 1 ∨ n = 2 ∨ n = 3 ∨ n = 4 ∨ n = 5 ∨ n = 6 ∨ n = 7 ∨ n = 8 ∨ n = 9 ∨ n = 10 ∨ n = 11 ∨ n = 12 ∨ n = 13 ∨ n = 14 ∨ n = 15) with rfl | rfl | rfl | rfl | rfl | rfl | rfl | rfl | rfl | rfl | rfl | rfl | rfl | rfl | rfl | rfl <;> decide
  show [Value.int .u8 92, Value.int .u8 117, Value.int .u8 48, Value.int .u8 48, Value.int .u8 (((hexd a).toNat : Nat) : Int), Value.int .u8 (((hexd b).toNat : Nat) : Int)] = _
  rw [h a a0 a1, h b b0 b1]
set_option maxHeartbeats 6400000 in
set_option maxRecDepth 100000 in
theorem rquote_any (l : List Int) (X cs : Nat) (a0 : Option Addr) (w : World) (h : ClsAt l a0 l.length X w) (hl : ∀ n ∈ l, SignP n) (hb : l.length ≤ 100000) :
    Calls Tryz.prog 40 #[.slice a0 l.length cs] w fun e w' => e = .returned (.string ⟨(quoteB l).toArray⟩) ∧ Below w.heap.size w w' := by
  obtain ⟨i0, hi, hz0, hz1, hz2⟩ := info_parts infoByte
  have HL := Lib.hid hl
  have HC := Lib.hid h
  obtain ⟨T, hT⟩ : ∃ T : ByteArray, T = ⟨(quoteB l).toArray⟩ := ⟨_, rfl⟩
  have HTT := Lib.hid hT
  rw [← hT]
  clear hT
  clear h hl
  have HO0 : Hid ((w.alloc (.cells #[.int .u8 34] 5)).ownsRow w.heap.size 5 1 (.slice (some ⟨w.heap.size, 0, none⟩) 1 1) 1 (Lib.byteCells (quoteIn (l.take 0)))) := Lib.hid (own_first w _)
  have HB0 := Lib.hid ((Below.refl w.heap.size w).alloc (Nat.le_refl _) (.cells #[.int .u8 34] 5))
  go_enter Tryz.func40, Tryz.ntmps40
  go_wp2_with fail
  go_loopw [4, 11] (fun v i wr => ∃ (k m : Nat) (a : Option Addr) (c : Nat), k ≤ l.length ∧ m ≤ 6 * k + 1 ∧ Hid (m = (quoteIn (l.take k)).length) ∧ i = .int .i64 k ∧ v = .slice a m c ∧ Hid (wr.ownsRow w.heap.size 5 1 (.slice a m c) m (Lib.byteCells (quoteIn (l.take k)))) ∧ Hid (Below w.heap.size w wr))
    (fun _ i _ => l.length - (intOf i).toNat)
  case atStart => exact ⟨0, 1, _, _, by omega, by omega, Lib.hid rfl, rfl, rfl, HO0, HB0⟩
  case round =>
    obtain ⟨k, m, a, c, hk, hm6, HM, rfl, rfl, hO, hB⟩ := hrel
    clear HO0 HB0
    have hsz := hB.out.size
    by_cases hlt : k < l.length
    · obtain ⟨b, off, ha, hcell⟩ : ∃ b off, a0 = some ⟨b, off, none⟩ ∧ wr.cell? ⟨b, off + k, none⟩ = some (.int .i64 (l[k]'hlt)) := by
        rcases (HC.out.below hB.out).2 with h0 | ⟨b, off, h1, _, _, h4⟩
        · omega
        · refine ⟨b, off, h1, ?_⟩
          rw [h4 k hlt, List.getD_eq_getElem?_getD, List.getElem?_eq_getElem hlt]; rfl
      have hsn := Lib.hid (HL.out _ (List.getElem_mem hlt))
      have HT : Hid (quoteIn (l.take (k + 1)) = quoteIn (l.take k) ++ qsign (l[k]'hlt)) := Lib.hid (by rw [List.take_succ_eq_append_getElem hlt, quoteIn_snoc])
      generalize l[k] = n at hcell hsn HT
      have hn1 : 0 ≤ n ∧ n ≤ 1114111 := by have := hsn.out; unfold SignP at this; omega
      obtain ⟨n0, n1⟩ := hn1
      subst ha
      by_cases hl0 : letterV n = 0
      · by_cases h4 : classV n = 4
        · have HQ : Hid (qsign n = [92, 117, 48, 48, hexd (n / 16), hexd (n % 16)]) := Lib.hid (by unfold qsign; rw [if_neg (by rw [hl0]; simp), if_pos h4])
          obtain ⟨b0, b1, _⟩ := class4_bd h4
          have HL0 := Lib.hid hl0
          have HC4 := Lib.hid h4
          clear hl0 h4
          go_wp2_with fail
          refine (letter_any n _ (by omega) (by omega)).mono ?_
          rintro e w' ⟨rfl, rfl⟩
          rw [HL0.out]
          go_wp2_with fail
          refine (rclass_any n _ (by omega) (by omega)).mono ?_
          rintro e wq ⟨rfl, rfl⟩
          rw [HC4.out]
          go_wp2_with fail
          have q0 : n.tdiv 16 = n / 16 := Int.tdiv_eq_ediv_of_nonneg b0
          have q1 : n.tmod 16 = n % 16 := Int.tmod_eq_emod_of_nonneg b0
          have q2 : 0 ≤ n / 16 ∧ n / 16 < 16 := by omega
          have q3 : 0 ≤ n % 16 ∧ n % 16 < 16 := by omega
          obtain ⟨q20, q21⟩ := q2
          obtain ⟨q30, q31⟩ := q3
          have u3 : IntKind.i64.wrap (n / 16) = n / 16 := IntWalk.i64_in _ ⟨by omega, by omega⟩
          have u4 : IntKind.i64.wrap (n % 16) = n % 16 := IntWalk.i64_in _ ⟨by omega, by omega⟩
          have HX : Hid (qsign n = [92, 117, 48, 48, hexd (n / 16), hexd (n % 16)]) := HQ
          have hx1 := Lib.hid (hexI_bd q20 q21)
          have hx2 := Lib.hid (hexI_bd q30 q31)
          have HCE : Hid (Lib.byteCells [92, 117, 48, 48, hexd (n / 16), hexd (n % 16)] = [.int .u8 92, .int .u8 117, .int .u8 48, .int .u8 48, .int .u8 (hexI (n / 16)), .int .u8 (hexI (n % 16))]) := Lib.hid (cells_six _ _ q20 q21 q30 q31)
          have HO5 := Lib.hid (fun (o : Obj) => ((hO.out.alloc o).drew))
          have HO6 := Lib.hid (fun (o : Obj) => ((hO.out.drew).alloc o))
          obtain ⟨y1, hy1⟩ : ∃ y1, y1 = hexI (n / 16) := ⟨_, rfl⟩
          obtain ⟨y2, hy2⟩ : ∃ y2, y2 = hexI (n % 16) := ⟨_, rfl⟩
          rw [← hy1] at hx1 HCE
          rw [← hy2] at hx2 HCE
          have u1 : ∀ w, _ := upper_run (n / 16) q20 q21
          have u2 : ∀ w, _ := upper_run (n % 16) q30 q31
          rw [← hy1] at u1
          rw [← hy2] at u2
          clear hy1 hy2
          generalize n / 16 = dq at *
          generalize n % 16 = dr at *
          go_region_law ((refine step_append_lies _ rfl (.tmp 29) (.tmp 38) 86 rfl w.heap.size 5 i0 (.int .u8 0) 1 1 Tryz.underlying86 hi hz0 hz1 hz2 rfl (by decide) (.slice a m c) m (Lib.byteCells (quoteIn (l.take k))) (by simp [Act.eval]) (by first | exact HO5.out _ | exact HO6.out _) ⟨wq.heap.size, 0, none⟩ 6 6 [.int .u8 92, .int .u8 117, .int .u8 48, .int .u8 48, .int .u8 y1, .int .u8 y2] (by simp [Act.eval]) rfl (World.news_of_block (heap_alloc_new _ _)) (by simp [Value.oneCell']) (by decide) (by unfold maxLen; omega) (by omega) (by simp; omega) _ rfl ?_; intro g4 c4 w4 oa ga hat hlt4))
          all_goals
            have hb4 : Below w.heap.size w w4 := ((hB.out.alloc (by omega) _).drew).grown ga (by simp; omega) (fun g hg => (hO.out.lt g hg).1)
            have HM2 : Hid (m + 6 = (quoteIn (l.take (k + 1))).length) := Lib.hid (by rw [HT.out, HQ.out, List.length_append, ← HM.out]; rfl)
            have oa2 : Hid (w4.ownsRow w.heap.size 5 1 (.slice (some ⟨g4, 0, none⟩) (m + 6) c4) (m + 6) (Lib.byteCells (quoteIn (l.take (k + 1))))) := Lib.hid (by
              rw [HT.out, HQ.out, Lib.byteCells_append, HCE.out]
              exact oa)
            have HB4 := Lib.hid hb4
            clear oa hb4 ga hat hlt4 u1 u2 u3 u4 hO hB hcell
            go_wp2_with fail
            go_roundw
            case rel => exact ⟨k + 1, m + 6, _, c4, by omega, by omega, HM2, by go_num, rfl, oa2, HB4⟩
            case measure => simp [intOf]; omega
        · have HQ : Hid (qsign n = enc n) := Lib.hid (by unfold qsign; rw [if_neg (by rw [hl0]; simp), if_neg h4])
          have H4 : Hid (classV n ≠ 4) := Lib.hid h4
          have HL0 := Lib.hid hl0
          obtain ⟨cv, hcv⟩ : ∃ cv, cv = classV n := ⟨_, rfl⟩
          have HCV := Lib.hid hcv
          have t4 : (cv == (4 : Int)) = false := beq_eq_false_iff_ne.mpr (by rw [hcv]; exact h4)
          clear hl0 h4 hcv
          go_wp2_with fail
          refine (letter_any n _ (by omega) (by omega)).mono ?_
          rintro e w' ⟨rfl, rfl⟩
          rw [HL0.out]
          go_wp2_with fail
          refine (rclass_any n _ (by omega) (by omega)).mono ?_
          rintro e w' ⟨rfl, rfl⟩
          rw [← HCV.out]
          go_wp2_with fail
          refine (bytes_any n _ hsn.out).mono ?_
          rintro e w2 ⟨rfl, hw2⟩
          have hnew : w2.heap[w'.heap.size]? = some (.cells (Lib.runeCells n).toArray 5 (0, 0)) := by rw [hw2]; exact heap_alloc_new _ _
          have hbb : Below w'.heap.size w' w2 := by rw [hw2]; exact (Below.refl _ _).alloc (Nat.le_refl _) _
          have ho2 := ownsRow_below hO.out hbb
          have hb2 := hB.out.trans (hbb.mono hsz)
          have hs2 := hb2.size
          have HN := Lib.hid (fun (j : Nat) (u : Value) (hj : (Lib.runeCells n)[j]? = some u) => show w2.cell? ((⟨w'.heap.size, 0, none⟩ : Addr).add j) = some u by
            have e : (⟨w'.heap.size, 0, none⟩ : Addr).add j = ⟨w'.heap.size, j, none⟩ := by
              unfold Addr.add
              split
              · subst_vars; rfl
              · simp
            rw [e, Lib.cell_of_heap hnew]
            simpa using hj)
          have hel := enc_pos n
          have hel4 : (enc n).length ≤ 6 := by have := (qsign_len n).2; rw [HQ.out] at this; exact this
          clear hw2 hnew hbb hO hB hcell
          go_wp2_with (at_builtin; refine wpList_append_own _ rfl (.tmp 40) (.tmp 42) 86 rfl w.heap.size 5 i0 (.int .u8 0) 1 1 Tryz.underlying86 hi hz0 hz1 hz2 rfl (by decide) _ _ _ rfl ho2 ⟨w'.heap.size, 0, none⟩ (enc n).length (enc n).length (Lib.runeCells n) rfl (by rw [rune_len]; omega) HN.out (rune_one n) (by unfold maxLen; omega) (by omega) (by omega) ?_; intro v' w4 oa ga _; obtain ⟨a4, c4, rfl⟩ := own_form oa; have hb4 : Below w.heap.size w w4 := hb2.grown ga (by omega) (fun g hg => (ho2.lt g hg).1); clear ga)
          have HM2 : Hid (m + (enc n).length = (quoteIn (l.take (k + 1))).length) := Lib.hid (by rw [HT.out, HQ.out, List.length_append, ← HM.out])
          have oa2 : Hid (w4.ownsRow w.heap.size 5 1 (.slice a4 (m + (enc n).length) c4) (m + (enc n).length) (Lib.byteCells (quoteIn (l.take (k + 1))))) := Lib.hid (by
            rw [HT.out, HQ.out, Lib.byteCells_append]
            rw [show Lib.byteCells (enc n) = Lib.runeCells n from Lib.byteCells_encodeRune n]
            exact oa)
          have HB4 := Lib.hid hb4
          clear oa hb4
          go_roundw
          case rel => exact ⟨k + 1, m + (enc n).length, a4, c4, by omega, by omega, HM2, by go_num, rfl, oa2, HB4⟩
          case measure => simp [intOf]; omega
      · have HQ : Hid (qsign n = [92, (letterV n).toNat.toUInt8]) := Lib.hid (by unfold qsign; rw [if_pos hl0])
        have hli := letter_in n
        obtain ⟨y, hy⟩ : ∃ y, y = letterV n := ⟨_, rfl⟩
        have HY := Lib.hid hy
        rw [← hy] at hli hl0 HQ
        obtain ⟨y0, y1⟩ := hli
        have ty : (y == (0 : Int)) = false := beq_eq_false_iff_ne.mpr hl0
        clear hy
        go_wp2_with fail
        refine (letter_any n _ (by omega) (by omega)).mono ?_
        rintro e w' ⟨rfl, rfl⟩
        rw [← HY.out]
        go_wp2_with (at_builtin; refine wpList_append_own _ rfl (.tmp 22) (.tmp 24) 86 rfl w.heap.size 5 i0 (.int .u8 0) 1 1 Tryz.underlying86 hi hz0 hz1 hz2 rfl (by decide) _ _ _ rfl (hO.out.alloc _) ⟨wr.heap.size, 0, none⟩ 2 2 [.int .u8 92, .int .u8 y] rfl rfl (two_new _ _ _) (by simp [Value.oneCell']) (by unfold maxLen; omega) (by omega) (by simp; omega) ?_; intro v' w4 oa ga _; obtain ⟨a4, c4, rfl⟩ := own_form oa; have hb4 : Below w.heap.size w w4 := (hB.out.alloc (by omega) _).grown ga (by simp; omega) (fun g hg => (hO.out.lt g hg).1); clear ga)
        have HM2 : Hid (m + 2 = (quoteIn (l.take (k + 1))).length) := Lib.hid (by rw [HT.out, HQ.out, List.length_append, ← HM.out]; rfl)
        have oa2 : Hid (w4.ownsRow w.heap.size 5 1 (.slice a4 (m + 2) c4) (m + 2) (Lib.byteCells (quoteIn (l.take (k + 1))))) := Lib.hid (by
          rw [HT.out, HQ.out, Lib.byteCells_append]
          rw [cells_two y y0 y1]
          exact oa)
        have HB4 := Lib.hid hb4
        clear oa hb4
        go_roundw
        case rel => exact ⟨k + 1, m + 2, a4, c4, by omega, by omega, HM2, by go_num, rfl, oa2, HB4⟩
        case measure => simp [intOf]; omega
    · have HE : Hid (quoteIn (l.take k) ++ [34] = quoteB l) := Lib.hid (by rw [List.take_of_length_le (by omega)]; rfl)
      go_wp2_with (at_builtin; refine wpList_append_own _ rfl (.tmp 45) (.tmp 46) 86 rfl w.heap.size 5 i0 (.int .u8 0) 1 1 Tryz.underlying86 hi hz0 hz1 hz2 rfl (by decide) _ _ _ rfl (hO.out.alloc _) ⟨wr.heap.size, 0, none⟩ 1 1 [.int .u8 34] rfl rfl (cell_one_new _ _ _) (by simp [Value.oneCell']) (by unfold maxLen; omega) (by omega) (by simp; omega) ?_; intro v' w4 oa ga _; obtain ⟨a4, c4, rfl⟩ := own_form oa; have hb4 : Below w.heap.size w w4 := (hB.out.alloc (by omega) _).grown ga (by simp; omega) (fun g hg => (hO.out.lt g hg).1); clear ga)
      have hcv : (convert 86 9 (.slice a4 (m + 1) c4)).run Tryz.prog w4 = .ok (.string T) w4 := by
        rw [HTT.out]
        refine back_text w4 w.heap.size a4 (m + 1) c4 (quoteB l) (by rw [← HE.out, List.length_append, ← HM.out]; rfl) ?_
        rw [← HE.out, Lib.byteCells_append]
        exact oa
      have HB4 := Lib.hid hb4
      clear oa hb4
      go_wp2_with fail
      rw [hcv]
      go_wp2_with fail
      go_ret
      exact ⟨rfl, HB4.out⟩
end Go.Proofs.YtbchkhjkajagfaaGreatDoor
