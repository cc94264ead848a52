/- The contract of package window's Reports over this seat's program, handed the closure that appends. -/
import Derived.Test.YthfffgdelllcdaaPtYield
import Derived.Test.YthfffgdelllcdaaPtPlain
namespace Go.Proofs.Ythfffgdelllcdaa
open Go.RowKit
theorem rs_pk {W S B f0 t0 : Int} {b base c : Nat} {w w' : World} (h : RS W S B f0 t0 c w) (hb : PK b base w w') (hc : b < c) (hc' : c + 3 ≤ base) : RS W S B f0 t0 c w' := by
  obtain ⟨⟨h0, h1, h2⟩, h3, h4⟩ := h
  exact ⟨⟨(cell_block (hb.2 c hc (by omega))).trans h0, (cell_block (hb.2 c hc (by omega))).trans h1, (cell_block (hb.2 c hc (by omega))).trans h2⟩, (cell_block (hb.2 _ (by omega) (by omega))).trans h3, (cell_block (hb.2 _ (by omega) (by omega))).trans h4⟩
theorem pk_undrew {b base : Nat} {w w' : World} (h : PK b base w.drew w') : PK b base w w' := ⟨⟨h.1.os, h.1.tape, h.1.output, h.1.size, h.1.block⟩, h.2⟩
theorem py_drew {F : Int} {b base k : Nat} {w : World} (h : PY F b base k w) : PY F b base k w.drew := h
theorem py_drewN {F : Int} {b base k : Nat} {w : World} (h : PY F b base k w) (q : Nat) : PY F b base k (w.drewN q) := h
theorem pk_drewN {b base : Nat} {w w' : World} (h : PK b base w w') (q : Nat) : PK b base w (w'.drewN q) := ⟨⟨h.1.os, h.1.tape, h.1.output, h.1.size, h.1.block⟩, h.2⟩
def PRep (F : Int) (b base n : Nat) (w : World) (e : Ending) (w' : World) : Prop := e = .returned (.tuple #[]) ∧ PY F b base n w' ∧ PK b base w w'
set_option maxHeartbeats 1600000 in
theorem prep_any (W S B f0 t0 F : Int) (N : Nat) (b base c : Nat) (w : World) (h : Sh W S B) (hW : W ≤ 300) (hS' : S ≤ 300) (hB1 : -300 ≤ B) (hB2 : B ≤ 300) (hf1 : -100000 ≤ f0) (hf2 : f0 ≤ 100000) (ht1 : -100000 ≤ t0) (ht2 : t0 ≤ 100000)
    (hN : N = cntV W S B f0 t0) (hN' : N ≤ 800) (hF : F = firstV W S B f0) (lb : b < c) (lc : c + 3 ≤ base) (hbase : base ≤ w.heap.size) (hs : PY F b base 0 w) (hr : RS W S B f0 t0 c w) :
    Calls Try.prog 29 #[.func (.func 23) #[] #[.pointer (some ⟨b, 0, none⟩)], .pointer (some ⟨c, 0, none⟩), .pointer (some ⟨c + 1, 0, none⟩), .pointer (some ⟨c + 2, 0, none⟩)] w (PRep F b base N w) := by
  obtain ⟨f1, f2⟩ := first_bd h f0
  have e1 := held_id f0 (by omega) (by omega)
  have e2 := held_id t0 (by omega) (by omega)
  have CI := Lib.hid (fun (k : Nat) (hk : k < N) => cnt_in h f0 t0 k (by omega) (by rw [← hN]; omega))
  have CE := Lib.hid (cnt_end h f0 t0)
  have CS := Lib.hid (fun (k : Nat) (hk : k ≤ N) => cnt_small h f0 t0 110000 k (by rw [← hN]; omega) (by omega) (by rw [e1]; have := h.1; omega) (by rw [e2]; have := h.1; omega))
  have H2 := Lib.hid e2
  rw [← hN] at CE
  rw [← hF] at CI CE CS f1 f2
  have HF := Lib.hid hF
  clear hF hN e1 e2
  have HS := Lib.hid hs
  have HR := Lib.hid hr
  obtain ⟨⟨r0, r1, r2⟩, r3, r4⟩ := hr
  clear hs
  go_enter Try.func29, Try.ntmps29
  go_wp2_with fail
  refine (first_any W S B f0 _ h).mono ?_
  rintro e w1 ⟨rfl, hb1⟩
  rw [← HF.out]
  have HS1 := Lib.hid (py_below HS.out hb1)
  have HR1 := Lib.hid (rs_below HR.out hb1)
  have HK1 := Lib.hid (pk_below hb1 (by omega : b ≤ w.heap.size) hbase)
  have hz1 : base ≤ w1.heap.size := by have := hb1.size; omega
  clear hb1 r0 r1 r2 r3 r4
  clear HS
  go_wp2_with fail
  go_loopw [5] (fun i wr => ∃ k : Nat, k ≤ N ∧ i = .int .i64 (F + k) ∧ Hid (RS W S B f0 t0 c wr) ∧ Hid (PY F b base k wr) ∧ Hid (PK b base w wr) ∧ base ≤ wr.heap.size)
    (fun i _ => (F + N + 1 - intOf i).toNat)
  case atStart => exact ⟨0, by omega, by simp, HR1, HS1, HK1, hz1⟩
  case round =>
    obtain ⟨k, hk, rfl, hR, hY, hK, hz⟩ := hrel
    clear HS1 HR1 HK1 hz1
    obtain ⟨⟨r0, r1, r2⟩, r3, r4⟩ := hR.out
    have lr4 : c + 2 < _ := block_lt_of_cell r4
    have hsm := CS.out k hk
    have hc' : (F + k) * S + B ≤ 2305843009213693952 - W := by omega
    go_wp2_with fail
    refine (window_ok W S B (F + k) _ h (by omega) (by omega) hc').mono ?_
    rintro e w2 ⟨rfl, hb2⟩
    have HY2 := Lib.hid (py_below hY.out hb2)
    have HK2 := Lib.hid (pk_trans hK.out (pk_below hb2 (by omega) hz))
    have HR2 := Lib.hid (rs_below hR.out hb2)
    have lw2 := hb2.size
    clear r0 r1 r2 r3 r4 hb2 hR hY hK
    obtain ⟨⟨r0, r1, r2⟩, r3, r4⟩ := HR2.out
    have ls0 : c + 2 < w2.heap.size := by omega
    have ls1 : c + 1 < w2.heap.size := by omega
    have ls2 : c < w2.heap.size := by omega
    have hb' : Below w2.heap.size w2 (w2.alloc (.cells #[.int .i64 ((F + k) * S + B), .int .i64 ((F + k) * S + B + W)] 35)) := (Below.refl _ _).alloc (Nat.le_refl _) _
    have HY3 := Lib.hid (py_below HY2.out hb')
    have HK3 := Lib.hid (pk_trans HK2.out (pk_below hb' (by omega) (by omega)))
    have HR3 := Lib.hid (rs_below HR2.out hb')
    clear hb'
    by_cases ht : k < N
    · have ht' : decide (heldV t0 < (F + k) * S + B + W) = false := by have := CI.out k ht; simp; omega
      clear r0 r1 r2
      go_wp2_with fail
      go_region_with (first | (go_at_call 25; refine (wheld_any _ _).mono ?_; rintro e w' ⟨rfl, rfl⟩) | (go_at_call 23; refine (py_any F b base k _ (by omega) (by omega) (by simp; omega) (by first | exact HY3.out | exact py_drew HY3.out)).mono ?_; rintro e w3 ⟨rfl, hs3, hk3⟩))
      all_goals
        have HK4 := Lib.hid (pk_trans HK3.out (pk_undrew hk3))
        have HR4 := Lib.hid (rs_pk HR3.out (pk_undrew hk3) lb lc)
        have HY4 := Lib.hid hs3
        have hz4 : base ≤ w3.heap.size := by have := (pk_undrew hk3).1.size; simp at this; omega
        clear hk3 hs3
        go_wp2_with fail
        go_roundw
        case rel => exact ⟨k + 1, by omega, by go_num, HR4, HY4, HK4, hz4⟩
        case measure => simp [intOf]; omega
    · obtain rfl : k = N := by omega
      have ht' : decide (heldV t0 < (F + k) * S + B + W) = true := by simpa using CE.out
      go_wp2_with fail
      go_quiet ((go_at_call 25; exact Calls.quiet_of_same (wheld_any _ _)))
      go_wp2_with fail
      refine bodyPost_ret (v := .tuple #[]) (by simp [results, Try.results29]) rfl ?_
      exact ⟨rfl, py_drewN HY3.out _, pk_drewN HK3.out _⟩
end Go.Proofs.Ythfffgdelllcdaa
