/- Contracts over this seat's program: beckref02's Text of a number as digits; package value's Text; the laws' fixed fact. -/
import Derived.Test.YteeajhnbifpklaaDoorRfParse
import Derived.Test.YteeajhnbifpklaaDoorTvWalk
import Derived.Deep.QuietTactic
import Derived.BigQuiet
namespace Go.Proofs.YteeajhnbifpklaaDoor
open Go Go.RowKit
set_option linter.unusedVariables false
set_option maxRecDepth 100000
theorem dig_run (d : Int) (h0 : 0 ≤ d) (h1 : d ≤ 9) (w : World) : (Instr.slice 9 (.string ⟨#[48, 49, 50, 51, 52, 53, 54, 55, 56, 57]⟩) (some (.int .i64 d)) (some (.int .i64 (d + 1))) none).run Tryd.prog w = .ok (.string ⟨#[chD d]⟩) w := by
  obtain ⟨m, rfl⟩ := Int.eq_ofNat_of_zero_le h0
  have hm : m < 10 := by omega
  clear h0 h1
  rcases (by omega : m = 0 ∨ m = 1 ∨ m = 2 ∨ m = 3 ∨ m = 4 ∨ m = 5 ∨ m = 6 ∨ m = 7 ∨ m = 8 ∨ m = 9) with rfl | rfl | rfl | rfl | rfl | rfl | rfl | rfl | rfl | rfl
  all_goals rfl
theorem bytes_add (x y : List UInt8) : (⟨x.toArray⟩ : ByteArray) ++ ⟨y.toArray⟩ = ⟨(x ++ y).toArray⟩ := by
  apply ByteArray.ext
  simp
theorem itoa_zero : Lib.itoa 0 = [48] := by
  show Lib.decDigits 0 = _
  rw [Lib.decDigits_one (by decide)]
  rfl
theorem itoa_digs (N : Int) (ds : List Int) (hg : Good ds) (hn : Norm ds) (hv : val ds = szV N) (h0 : ds ≠ []) : Lib.itoa N = (if N < 0 then [45] else []) ++ ds.reverse.map chD := by
  have hp := val_nonneg hg
  rw [dec_digs ds (szV N).toNat hg hn (by omega) h0]
  unfold Lib.itoa szV
  by_cases h : N < 0
  · rw [if_pos h, if_pos h, if_pos h]
    show _ = 45 :: Lib.decDigits _
    congr 2; omega
  · rw [if_neg h, if_neg h, if_neg h]; rfl
set_option maxHeartbeats 1600000 in
theorem text_dig (N : Int) (u : Value) (w : World) (hN : szV N < ten 60) (hu : BigV w u N) :
    Calls Tryd.prog 23 #[u] w fun e w' => e = .returned (.string ⟨(Lib.itoa N).toArray⟩) ∧ Below w.heap.size w w' := by
  obtain ⟨a, cap, ds, rfl, c1, c2, hd, hg, hn, hv⟩ := big_parts hu
  have hl : ds.length ≤ 60 := len_le hg hn (by rw [hv]; exact hN)
  obtain ⟨R, hR⟩ : ∃ R : ByteArray, R = ⟨(Lib.itoa N).toArray⟩ := ⟨_, rfl⟩
  rw [← hR]
  by_cases h0 : ds = []
  · subst h0
    obtain rfl : N = 0 := (sz_zero N).1 hv.symm
    rw [itoa_zero] at hR
    subst hR
    clear hd hg hn hv hu hN hl
    go_enter Tryd.func23, Tryd.ntmps23
    go_wp2_with fail
    go_ret
    exact ⟨rfl, by go_grown⟩
  obtain ⟨n, hn0⟩ : ∃ n, n = ds.length := ⟨_, rfl⟩
  have hnz : n ≠ 0 := by rw [hn0]; exact fun h => h0 (List.length_eq_zero_iff.1 h)
  have hnz1 : 0 < n := by omega
  have hnz2 : ((n : Int) == 0) = false := by rw [beq_eq_false_iff_ne]; omega
  have HI := Lib.hid (itoa_digs N ds hg hn hv h0)
  have HR := Lib.hid hR
  have HD := Lib.hid hd
  have HG := Lib.hid hg
  have HLN := Lib.hid hn0
  rw [← hn0] at hl ⊢
  obtain ⟨sx, hsx⟩ : ∃ sx, sx = decide (N < 0) := ⟨_, rfl⟩
  rw [← hsx]
  have hpre : (if N < 0 then ([45] : List UInt8) else []) = if sx then [45] else [] := by rw [hsx]; by_cases h : N < 0 <;> simp [h]
  rw [hpre] at HI
  clear hpre hsx hn0 hnz h0 hd hg hn hv hu hR
  have fin : ∀ (pre : List UInt8) (B : World) (q : Nat) (T : ByteArray), (if sx then ([45] : List UInt8) else []) = pre → T = ⟨(pre ++ (ds.drop 0).reverse.map chD).toArray⟩ → T = R := fun pre B q T h1 h2 => by
    rw [h2, HR.out, HI.out, h1]; rfl
  have FIN := Lib.hid fin
  clear fin HI
  cases sx with
  | true =>
    go_enter Tryd.func23, Tryd.ntmps23
    go_wp2_with fail
    obtain ⟨w1, h1⟩ : ∃ w1, w1 = w.alloc (.cells #[.bool true, .slice a n cap] 47) := ⟨_, rfl⟩
    have p1 : w1.cell? ⟨w.heap.size, 1, none⟩ = some (.slice a n cap) := by rw [h1]; simp [go_sem]
    have HZ := Lib.hid (show Below w.heap.size w w1 by rw [h1]; go_grown)
    rw [← h1]
    clear h1
    go_loopw [3, 4] (fun sv x wr => ∃ (m q : Nat) (T : ByteArray), m ≤ n ∧ x = .int .i64 ((m : Int) - 1) ∧ sv = .string T ∧ T.size ≤ 200 - m ∧ Hid (T = ⟨([45] ++ (ds.drop m).reverse.map chD).toArray⟩) ∧ wr = w1.drewN q) (fun _ x _ => (intOf x + 1).toNat)
    case atStart => exact ⟨n, 0, ⟨#[45]⟩, by omega, by first | rfl | go_num, rfl, by show (#[] : Array UInt8).size + 1 ≤ _; simp <;> omega, Lib.hid (by rw [List.drop_eq_nil_of_le (by rw [← HLN.out]; omega)]; rfl), rfl⟩
    case round =>
      obtain ⟨m, q, T, hm, rfl, rfl, hTs, HT, rfl⟩ := hrel
      by_cases hm0 : m = 0
      · subst hm0
        obtain rfl : T = R := FIN.out [45] w1 q T rfl HT.out
        go_wp2_with fail
        go_ret
        exact ⟨rfl, below_drewN HZ.out q⟩
      · obtain ⟨J, rfl⟩ : ∃ J, m = J + 1 := ⟨m - 1, by omega⟩
        have hJ : J < ds.length := by rw [← HLN.out]; omega
        obtain ⟨g, off, hea, ca⟩ := HD.out J hJ
        subst hea
        have ca1 := cell_below ca HZ.out
        have hgd := HG.out _ (List.getElem_mem hJ)
        have e1 : ds[J]?.getD 0 = ds[J]'hJ := by rw [List.getElem?_eq_getElem hJ]; rfl
        rw [e1] at ca1
        have HDR : Hid (ds.drop J = ds[J]'hJ :: ds.drop (J + 1)) := Lib.hid (List.drop_eq_getElem_cons hJ)
        clear ca e1
        generalize ds[J]'hJ = d at ca1 hgd HDR
        obtain ⟨d0, d9⟩ := hgd
        have hgw := block_lt_of_cell ca1
        have g7 := dig_run d d0 d9
        have hw : IntKind.i64.wrap (d + 1) = d + 1 := IntWalk.i64_in _ ⟨by omega, by omega⟩
        obtain ⟨T2, hT2⟩ : ∃ T2 : ByteArray, T2 = T ++ ⟨#[chD d]⟩ := ⟨_, rfl⟩
        have hs2 : T2.size ≤ 200 - J := by rw [hT2, ByteArray.size_append]; show T.size + 1 ≤ _; omega
        have g9 : ∀ w : World, (Op.stringOp .add T ⟨#[chD d]⟩).run Tryd.prog w = .ok (.string T2) w := fun w => by rw [hT2]; exact run_string_add w _ _ (by omega) (by show 1 ≤ _; omega)
        have HT2 : Hid (T2 = ⟨([45] ++ (ds.drop J).reverse.map chD).toArray⟩) := Lib.hid (by
          rw [hT2, HT.out, HDR.out, List.reverse_cons, List.map_append, ← List.append_assoc]
          exact bytes_add _ _)
        clear hT2 HT HDR hJ
        have b1 : (0 : Int) ≤ (J : Int) := by omega
        have b2 : (J : Int) < (n : Int) := by omega
        have b3 : J < n := by omega
        have p1' : (w1.drewN q).cell? ⟨w.heap.size, 1, none⟩ = some (.slice (some ⟨g, off, none⟩) n cap) := p1
        rw [show ((J + 1 : Nat) : Int) - 1 = (J : Int) from by omega]
        go_wp2_with fail
        go_quiet (fail)
        go_wp2_with fail
        go_roundw
        case rel => exact ⟨J, _, T2, by omega, by go_num, rfl, hs2, HT2, by first | rfl | rw [World.drewN_drewN] | rw [World.drewN_drewN, World.drewN_drewN]⟩
        case measure => simp [intOf] <;> omega
  | false =>
    go_enter Tryd.func23, Tryd.ntmps23
    go_wp2_with fail
    obtain ⟨w1, h1⟩ : ∃ w1, w1 = w.alloc (.cells #[.bool false, .slice a n cap] 47) := ⟨_, rfl⟩
    have p1 : w1.cell? ⟨w.heap.size, 1, none⟩ = some (.slice a n cap) := by rw [h1]; simp [go_sem]
    have HZ := Lib.hid (show Below w.heap.size w w1 by rw [h1]; go_grown)
    rw [← h1]
    clear h1
    go_loopw [3, 4] (fun sv x wr => ∃ (m q : Nat) (T : ByteArray), m ≤ n ∧ x = .int .i64 ((m : Int) - 1) ∧ sv = .string T ∧ T.size ≤ 200 - m ∧ Hid (T = ⟨([] ++ (ds.drop m).reverse.map chD).toArray⟩) ∧ wr = w1.drewN q) (fun _ x _ => (intOf x + 1).toNat)
    case atStart => exact ⟨n, 0, ⟨#[]⟩, by omega, by first | rfl | go_num, rfl, by show (#[] : Array UInt8).size + 0 ≤ _; simp <;> omega, Lib.hid (by rw [List.drop_eq_nil_of_le (by rw [← HLN.out]; omega)]; rfl), rfl⟩
    case round =>
      obtain ⟨m, q, T, hm, rfl, rfl, hTs, HT, rfl⟩ := hrel
      by_cases hm0 : m = 0
      · subst hm0
        obtain rfl : T = R := FIN.out [] w1 q T rfl HT.out
        go_wp2_with fail
        go_ret
        exact ⟨rfl, below_drewN HZ.out q⟩
      · obtain ⟨J, rfl⟩ : ∃ J, m = J + 1 := ⟨m - 1, by omega⟩
        have hJ : J < ds.length := by rw [← HLN.out]; omega
        obtain ⟨g, off, hea, ca⟩ := HD.out J hJ
        subst hea
        have ca1 := cell_below ca HZ.out
        have hgd := HG.out _ (List.getElem_mem hJ)
        have e1 : ds[J]?.getD 0 = ds[J]'hJ := by rw [List.getElem?_eq_getElem hJ]; rfl
        rw [e1] at ca1
        have HDR : Hid (ds.drop J = ds[J]'hJ :: ds.drop (J + 1)) := Lib.hid (List.drop_eq_getElem_cons hJ)
        clear ca e1
        generalize ds[J]'hJ = d at ca1 hgd HDR
        obtain ⟨d0, d9⟩ := hgd
        have hgw := block_lt_of_cell ca1
        have g7 := dig_run d d0 d9
        have hw : IntKind.i64.wrap (d + 1) = d + 1 := IntWalk.i64_in _ ⟨by omega, by omega⟩
        obtain ⟨T2, hT2⟩ : ∃ T2 : ByteArray, T2 = T ++ ⟨#[chD d]⟩ := ⟨_, rfl⟩
        have hs2 : T2.size ≤ 200 - J := by rw [hT2, ByteArray.size_append]; show T.size + 1 ≤ _; omega
        have g9 : ∀ w : World, (Op.stringOp .add T ⟨#[chD d]⟩).run Tryd.prog w = .ok (.string T2) w := fun w => by rw [hT2]; exact run_string_add w _ _ (by omega) (by show 1 ≤ _; omega)
        have HT2 : Hid (T2 = ⟨([] ++ (ds.drop J).reverse.map chD).toArray⟩) := Lib.hid (by
          rw [hT2, HT.out, HDR.out, List.reverse_cons, List.map_append, ← List.append_assoc]
          exact bytes_add _ _)
        clear hT2 HT HDR hJ
        have b1 : (0 : Int) ≤ (J : Int) := by omega
        have b2 : (J : Int) < (n : Int) := by omega
        have b3 : J < n := by omega
        have p1' : (w1.drewN q).cell? ⟨w.heap.size, 1, none⟩ = some (.slice (some ⟨g, off, none⟩) n cap) := p1
        rw [show ((J + 1 : Nat) : Int) - 1 = (J : Int) from by omega]
        go_wp2_with fail
        go_quiet (fail)
        go_wp2_with fail
        go_roundw
        case rel => exact ⟨J, _, T2, by omega, by go_num, rfl, hs2, HT2, by first | rfl | rw [World.drewN_drewN] | rw [World.drewN_drewN, World.drewN_drewN]⟩
        case measure => simp [intOf] <;> omega
end Go.Proofs.YteeajhnbifpklaaDoor
