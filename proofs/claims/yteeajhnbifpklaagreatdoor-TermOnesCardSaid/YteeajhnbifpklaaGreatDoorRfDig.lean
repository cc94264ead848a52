/- Contracts of beckref02's numbers as digits over this seat's program: sizes, Of, trim, Same, Fits. -/
import Derived.Test.YteeajhnbifpklaaGreatDoorRows
import Derived.Test.YteeajhnbifpklaaGreatDoorPlain
import Derived.Test.YteeajhnbifpklaaGreatDoorBigPlain
import Derived.Test.YteeajhnbifpklaaGreatDoorSumPlain
import Derived.Test.YteeajhnbifpklaaGreatDoorMem
import Derived.WalkKit
import Derived.ProofKit
import Derived.OpenShut
import Derived.Handy
import Derived.Lib.Hide
import Derived.Maps.AppendAt
import Derived.Deep.RegionHeld3
namespace Go.Proofs.YteeajhnbifpklaaGreatDoor
open Go.RowKit

/-- the digits that a slice's address leads to -/
def DigA (w : World) (a : Option Addr) (ds : List Int) : Prop := ∀ j, j < ds.length → ∃ g off, a = some ⟨g, off, none⟩ ∧ w.cell? ⟨g, off + j, none⟩ = some (.int .i64 (ds[j]?.getD 0))
theorem digA_below {w w' : World} {a : Option Addr} {ds : List Int} (h : DigA w a ds) (hb : Below w.heap.size w w') : DigA w' a ds := fun j hj =>
  let ⟨g, off, h1, h2⟩ := h j hj
  ⟨g, off, h1, cell_below h2 hb⟩
/-- a slice that reads as these digits -/
def Dig (w : World) (v : Value) (ds : List Int) : Prop := ∃ a cap, v = .slice a ds.length cap ∧ ds.length ≤ cap ∧ cap ≤ 9223372036854775807 ∧ DigA w a ds
theorem dig_below {w w' : World} {v : Value} {ds : List Int} (h : Dig w v ds) (hb : Below w.heap.size w w') : Dig w' v ds :=
  let ⟨a, cap, h1, h2, h3, h4⟩ := h
  ⟨a, cap, h1, h2, h3, digA_below h4 hb⟩
theorem dig_own {w : World} {B : Nat} {T : TypeId} {v : Value} {ds : List Int} (h : w.ownsRow B T 1 v ds.length (ds.map (Value.int .i64))) : Dig w v ds := by
  obtain ⟨_, (⟨rfl, h0⟩ | ⟨g, cap, cur, rfl, h1, h2, h3, h4, _⟩)⟩ := id h
  · have : ds = [] := List.length_eq_zero_iff.1 h0
    subst this
    exact ⟨none, 0, rfl, Nat.le_refl _, by omega, fun j hj => by simp at hj⟩
  · refine ⟨_, cap, rfl, h3, h4, fun j hj => ⟨g, 0, rfl, ?_⟩⟩
    rw [Nat.zero_add, h.cellAt j (by omega)]
    simp [hj]
theorem infoD : (Tryz.prog.info? 3).map (fun i => (i.zero, i.size, i.bytes)) = some (some (.int .i64 0), 1, 8) := by kernel_rfl
/-- -1, 0, 1 -/
def cmpV (a b : Int) : Int := if a < b then -1 else if b < a then 1 else 0
set_option maxRecDepth 100000 in
set_option maxHeartbeats 800000 in
theorem sizes_any (aa ba : Option Addr) (ca cb : Nat) (xs ys : List Int) (w : World) (la : xs.length ≤ 6100) (_lb : ys.length ≤ 6100) (ga : Good xs) (gb : Good ys) (na : Norm xs) (nb : Norm ys) (ha : DigA w aa xs) (hb : DigA w ba ys) :
    Calls Tryz.prog 30 #[.slice aa xs.length ca, .slice ba ys.length cb] w fun e w' => e = .returned (.int .i64 (cmpV (val xs) (val ys))) ∧ ∃ n, w' = w.drewN n := by
  rcases Nat.lt_trichotomy xs.length ys.length with hl | hl | hl
  · have hv := len_lt ga gb nb hl
    have HC : Hid (cmpV (val xs) (val ys) = -1) := Lib.hid (by unfold cmpV; rw [if_pos hv])
    clear ha hb ga gb na nb hv
    have h1 : (((xs.length : Nat) : Int) != (ys.length : Int)) = true := by simp; omega
    go_enter Tryz.func30, Tryz.ntmps30
    go_wp2
    go_ret
    exact ⟨ret_one (int_eq HC.out.symm), 0, rfl⟩
  · obtain ⟨n, hn⟩ : ∃ n, n = xs.length := ⟨_, rfl⟩
    have hA := Lib.hid ha; have hB := Lib.hid hb; have gA := Lib.hid ga; have gB := Lib.hid gb
    have HX : Hid (xs.length = n) := Lib.hid hn.symm
    have HY : Hid (ys.length = n) := Lib.hid (by omega)
    rw [← hl, ← hn]
    have hn100 : n ≤ 6100 := by omega
    clear ha hb ga gb na nb hl hn la
    go_enter Tryz.func30, Tryz.ntmps30
    go_wp2_with fail
    go_loopw [5] (fun i wr => ∃ k q : Nat, k ≤ n ∧ i = .int .i64 ((k : Int) - 1) ∧ wr = w.drewN q ∧ Hid (xs.drop k = ys.drop k)) (fun i _ => (intOf i + 1).toNat)
    case atStart => exact ⟨n, 0, by omega, rfl, rfl, Lib.hid (by rw [List.drop_eq_nil_of_le (by rw [HX.out]; omega), List.drop_eq_nil_of_le (by rw [HY.out]; omega)])⟩
    case round =>
      obtain ⟨k, q, hk, rfl, rfl, he⟩ := hrel
      cases k with
      | zero =>
        have hee : xs = ys := by simpa using he.out
        have HC : Hid (cmpV (val xs) (val ys) = 0) := Lib.hid (by rw [hee]; simp [cmpV])
        clear hee
        go_wp2_with fail
        go_ret
        exact ⟨ret_one (int_eq HC.out.symm), q, rfl⟩
      | succ m =>
        have hmx : m < xs.length := by rw [HX.out]; omega
        have hmy : m < ys.length := by rw [HY.out]; omega
        obtain ⟨ga, oa, hea, ca'⟩ := hA.out m hmx
        subst hea
        obtain ⟨gb, ob, heb, cb'⟩ := hB.out m hmy
        subst heb
        obtain ⟨x, hx⟩ : ∃ x, x = xs[m]?.getD 0 := ⟨_, rfl⟩
        obtain ⟨y, hy⟩ : ∃ y, y = ys[m]?.getD 0 := ⟨_, rfl⟩
        rw [← hx] at ca'
        rw [← hy] at cb'
        have HDX := Lib.hid hx; have HDY := Lib.hid hy
        clear hx hy hmx hmy
        rcases Int.lt_trichotomy x y with hc | hc | hc
        · have HC : Hid (cmpV (val xs) (val ys) = -1) := Lib.hid (by
            have := val_first gA.out gB.out (by rw [HX.out, HY.out]) m (by rw [HX.out]; omega) he.out (by rw [← HDX.out, ← HDY.out]; exact hc)
            unfold cmpV; rw [if_pos this])
          have h1 : (x != y) = true := by simp; omega
          have b1 : (0 : Int) ≤ (m : Int) := by omega
          have b2 : (m : Int) < (n : Int) := by omega
          go_wp2_with fail
          go_quiet (fail)
          go_wp2_with fail
          go_quiet (fail)
          go_wp2_with fail
          go_ret
          exact ⟨ret_one (int_eq HC.out.symm), _, by rw [World.drewN_drewN, World.drewN_drewN]⟩
        · subst hc
          have HE : Hid (xs.drop m = ys.drop m) := Lib.hid (drop_same xs ys m (by rw [HX.out]; omega) (by rw [HY.out]; omega) he.out (by rw [← HDX.out, ← HDY.out]))
          have b1 : (0 : Int) ≤ (m : Int) := by omega
          have b2 : (m : Int) < (n : Int) := by omega
          go_wp2_with fail
          go_quiet (fail)
          go_wp2_with fail
          go_roundw
          case rel => exact ⟨m, q + nq, by omega, by go_num, rfl, HE⟩
          case measure => simp [intOf] <;> omega
        · have HC : Hid (cmpV (val xs) (val ys) = 1) := Lib.hid (by
            have := val_first gB.out gA.out (by rw [HX.out, HY.out]) m (by rw [HY.out]; omega) he.out.symm (by rw [← HDX.out, ← HDY.out]; exact hc)
            unfold cmpV; rw [if_neg (by omega), if_pos this])
          have h1 : (x != y) = true := by simp; omega
          have b1 : (0 : Int) ≤ (m : Int) := by omega
          have b2 : (m : Int) < (n : Int) := by omega
          go_wp2_with fail
          go_quiet (fail)
          go_wp2_with fail
          go_quiet (fail)
          go_wp2_with fail
          go_ret
          exact ⟨ret_one (int_eq HC.out.symm), _, by rw [World.drewN_drewN, World.drewN_drewN]⟩
  · have hv := len_lt gb ga na hl
    have HC : Hid (cmpV (val xs) (val ys) = 1) := Lib.hid (by unfold cmpV; rw [if_neg (by omega), if_pos hv])
    clear ha hb ga gb na nb hv
    have h1 : (((xs.length : Nat) : Int) != (ys.length : Int)) = true := by simp; omega
    go_enter Tryz.func30, Tryz.ntmps30
    go_wp2
    go_ret
    exact ⟨ret_one (int_eq HC.out.symm), 0, rfl⟩


/-- a value that is the number N: its sign, its digits, none of them a nought ahead -/
def BigV (w : World) (v : Value) (N : Int) : Prop := ∃ s ds, v = .agg #[.bool (decide (N < 0)), s] ∧ Dig w s ds ∧ Good ds ∧ Norm ds ∧ val ds = szV N
theorem bigV_below {w w' : World} {v : Value} {N : Int} (h : BigV w v N) (hb : Below w.heap.size w w') : BigV w' v N :=
  let ⟨s, ds, h1, h2, h3⟩ := h
  ⟨s, ds, h1, dig_below h2 hb, h3⟩
def BigRes (w : World) (N : Int) (e : Ending) (w' : World) : Prop := ∃ r, e = .returned r ∧ BigV w' r N ∧ Below w.heap.size w w'
theorem ten_19 : ten 19 = 10000000000000000000 := by decide
theorem digs_few (os : List Int) (k : Nat) (n m : Int) (hg : Good os) (hm : 1 ≤ m) (hn : n ≤ 9223372036854775808) (h : val os + ten k * m = n) : k ≤ 18 := by
  rcases Nat.lt_or_ge 18 k with hc | hc
  · have h1 := ten_mono (show 19 ≤ k by omega)
    rw [ten_19] at h1
    have h2 := Int.mul_le_mul_of_nonneg_left hm (show 0 ≤ ten k by omega)
    have h3 := val_nonneg hg
    omega
  · exact hc
theorem of_step (os : List Int) (k : Nat) (m n : Int) (ho : os.length = k) (h : val os + ten k * m = n) : val (os ++ [m % 10]) + ten (k + 1) * (m / 10) = n := by
  rw [val_snoc, ho, ten_succ, ← h]
  have e : m = m % 10 + 10 * (m / 10) := by omega
  have e2 : ten k * m = ten k * (m % 10) + 10 * ten k * (m / 10) := by
    conv => lhs; rw [e]
    rw [Int.mul_add, ← Int.mul_assoc, Int.mul_comm (ten k) 10]
  omega
theorem norm_snoc (os : List Int) (d : Int) (h : d ≠ 0) : Norm (os ++ [d]) := .inr ⟨os, d, rfl, h⟩
theorem sz_tmod (n : Int) : (if n.tmod 10 < 0 then -(n.tmod 10) else n.tmod 10) = szV n % 10 := by
  unfold szV
  by_cases h : n < 0
  · rw [if_pos h]
    have e : n.tmod 10 = -((-n) % 10) := by
      have := Int.neg_tmod (-n) 10
      rw [Int.neg_neg, Int.tmod_eq_emod_of_nonneg (a := -n) (by omega)] at this
      exact this
    rw [e]; split <;> omega
  · rw [if_neg h, Int.tmod_eq_emod_of_nonneg (by omega)]
    rw [if_neg (by omega)]
theorem sz_tdiv (n : Int) : szV (n.tdiv 10) = szV n / 10 := by
  unfold szV
  by_cases h : n < 0
  · rw [if_pos h]
    have e : n.tdiv 10 = -((-n) / 10) := by
      have := Int.neg_tdiv (-n) 10
      rw [Int.neg_neg, Int.tdiv_eq_ediv_of_nonneg (a := -n) (by omega)] at this
      exact this
    rw [e]; split <;> omega
  · rw [if_neg h, Int.tdiv_eq_ediv_of_nonneg (by omega), if_neg (by omega)]
theorem sz_zero (n : Int) : szV n = 0 ↔ n = 0 := by unfold szV; split <;> omega
theorem tdiv_in (n : Int) (h : -9223372036854775808 ≤ n) (h' : n ≤ 9223372036854775807) : -9223372036854775808 ≤ n.tdiv 10 ∧ n.tdiv 10 ≤ 9223372036854775807 := by
  have := tdiv_half n 10 (by omega) (by omega) (by omega)
  omega
set_option maxRecDepth 100000 in
set_option maxHeartbeats 3200000 in
theorem of_any (n : Int) (w : World) (h : -9223372036854775808 ≤ n) (h' : n ≤ 9223372036854775807) :
    Calls Tryz.prog 18 #[.int .i64 n] w (BigRes w n) := by
  obtain ⟨i0, hi, hz0, hz1, hz2⟩ := info_parts infoD
  have hnb : szV n ≤ 9223372036854775808 := by unfold szV; split <;> omega
  go_enter Tryz.func18, Tryz.ntmps18
  go_wp2_with fail
  go_loopw [0] (fun x wr => ∃ (m : Int) (k : Nat) (a : Option Addr) (cap : Nat) (os : List Int), x = .int .i64 m ∧ -9223372036854775808 ≤ m ∧ m ≤ 9223372036854775807 ∧
      Hid (os.length = k) ∧ Hid (Good os) ∧ Hid (val os + ten k * szV m = szV n) ∧ Hid (m = 0 → Norm os) ∧
      wr.cell? ⟨w.heap.size + 1, 0, none⟩ = some (.bool (decide (n < 0))) ∧ wr.cell? ⟨w.heap.size + 1, 1, none⟩ = some (.slice a k cap) ∧ wr.frozen? ⟨w.heap.size + 1, 1, none⟩ = false ∧
      wr.ownsRow (w.heap.size + 2) 3 1 (.slice a k cap) k (os.map (Value.int .i64)) ∧ Hid (Below (w.heap.size + 1) (w.alloc (.cells #[.bool false, .slice none 0 0] 37)) wr))
    (fun x _ => (intOf x).natAbs)
  case atStart =>
    exact ⟨n, 0, none, 0, [], rfl, h, h', Lib.hid rfl, Lib.hid good_nil, Lib.hid (by simp [val, ten]), Lib.hid (fun _ => .inl rfl), by simp [go_sem], by simp [go_sem], by simp [go_sem], World.ownsRow_nil _ _ _ _, Lib.hid ((Below.refl _ _).alloc (by simp) _)⟩
  case round =>
    obtain ⟨m, k, a, cap, os, rfl, m1, m2, hlen, hgood, hval, hnorm, c0, c1, c2, hown, hbel⟩ := hrel
    have hsz : w.heap.size + 1 < wr.heap.size := block_lt_of_cell c0
    by_cases hm : m = 0
    · subst hm
      have d0 : wr.cell? ⟨w.heap.size, 0, none⟩ = some (.bool false) := (hbel.out.cell (by simp)).trans (by rw [World.cell?_alloc_mark]; rfl)
      have d1 : wr.cell? ⟨w.heap.size, 1, none⟩ = some (.slice none 0 0) := (hbel.out.cell (by simp)).trans (by rw [World.cell?_alloc_mark]; rfl)
      have f0 : wr.frozen? ⟨w.heap.size, 0, none⟩ = false := (hbel.out.frozen (by simp)).trans (by simp [go_sem])
      have f1 : wr.frozen? ⟨w.heap.size, 1, none⟩ = false := (hbel.out.frozen (by simp)).trans (by simp [go_sem])
      have HO := Lib.hid hown
      have hno := hnorm.out rfl
      have HN := Lib.hid hno
      clear hnorm hno hown
      have z : Below w.heap.size w wr := ((Below.refl w.heap.size w).alloc (Nat.le_refl _) _).trans (hbel.out.mono (by simp))
      go_wp2_with fail
      have e0 : ((wr.setCell ⟨w.heap.size, 0, none⟩ (.bool (decide (n < 0)))).setCell ⟨w.heap.size, 1, none⟩ (.slice a k cap)).cell? ⟨w.heap.size, 0, none⟩ = some (.bool (decide (n < 0))) := by
        rw [World.cell?_setCell_other _ _ _ _ (by simp)]; exact World.cell?_setCell_same _ _ _ d0
      have e1 : ((wr.setCell ⟨w.heap.size, 0, none⟩ (.bool (decide (n < 0)))).setCell ⟨w.heap.size, 1, none⟩ (.slice a k cap)).cell? ⟨w.heap.size, 1, none⟩ = some (.slice a k cap) :=
        World.cell?_setCell_same _ _ _ (by rw [World.cell?_setCell_other _ _ _ _ (by simp)]; exact d1)
      refine bodyPost_ret (v := .agg #[.bool (decide (n < 0)), .slice a k cap]) (by simp [results, Tryz.results18, go_sem, e0, e1]) rfl ?_
      have ho2 := ownsRow_setCell_below (ownsRow_setCell_below HO.out (a := ⟨w.heap.size, 0, none⟩) (by simp) (.bool (decide (n < 0)))) (a := ⟨w.heap.size, 1, none⟩) (by simp) (.slice a k cap)
      have hv : val os = szV n := by have := hval.out; rw [show szV 0 = 0 from rfl, Int.mul_zero] at this; omega
      exact ⟨_, rfl, ⟨_, os, rfl, dig_own (by rw [hlen.out]; exact ho2), hgood.out, HN.out, hv⟩, (z.setCell (p := ⟨w.heap.size, 0, none⟩) (by simp) _).setCell (p := ⟨w.heap.size, 1, none⟩) (by simp) _⟩
    · have hbig : 1 ≤ szV m := by unfold szV; split <;> omega
      have hk18 := digs_few os k (szV n) (szV m) hgood.out hbig hnb hval.out
      obtain ⟨q1, q2⟩ := tdiv_in m m1 m2
      have hq := sz_tdiv m
      have hd := sz_tmod m
      have htm : m < 0 → m.tmod 10 ≤ 0 := fun h0 => by
        have e := Int.neg_tmod (-m) 10
        rw [Int.neg_neg, Int.tmod_eq_emod_of_nonneg (a := -m) (by omega)] at e
        omega
      have hnat : (m.tdiv 10).natAbs < m.natAbs := by have := tdiv_half m 10 (by omega) (by omega) (by omega); omega
      obtain ⟨Q, hQ⟩ : ∃ Q, Q = m.tdiv 10 := ⟨_, rfl⟩
      obtain ⟨D, hD⟩ : ∃ D, D = szV m % 10 := ⟨_, rfl⟩
      rw [← hQ] at q1 q2 hq hnat
      rw [← hD] at hd
      have d0 : 0 ≤ D := by omega
      have d9 : D ≤ 9 := by omega
      have HS : Hid (val (os ++ [D]) + ten (k + 1) * szV Q = szV n) := Lib.hid (by rw [hD, hq]; exact of_step os k (szV m) (szV n) hlen.out hval.out)
      have HNN : Hid (Q = 0 → Norm (os ++ [D])) := Lib.hid (fun h0 => norm_snoc os D (by
        rw [h0] at hq
        have : szV 0 = 0 := rfl
        omega))
      have HL : Hid ((os ++ [D]).length = k + 1) := Lib.hid (by simp [hlen.out])
      have HG : Hid (Good (os ++ [D])) := Lib.hid (good_snoc hgood.out d0 d9)
      clear hq hD hnorm hval hlen hgood hbig
      have hop : wr.ownsRow (w.heap.size + 2) 3 1 (.slice a k cap) k (os.map (Value.int .i64)) := hown
      clear hown
      rcases Int.lt_or_gt_of_ne hm with hm0 | hm0
      · by_cases hD0 : D = 0
        · subst hD0
          have ht : m.tmod 10 = 0 := by have := htm hm0; split at hd <;> omega
          have hQ' : m.tdiv 10 = Q := hQ.symm
          clear hd hQ hm
          go_wp2_with (at_builtin; refine wpList_append_own _ rfl (.tmp 17) (.tmp 19) 35 rfl (w.heap.size + 2) 3 i0 (.int .i64 0) 1 8 Tryz.underlying35 hi hz0 hz1 hz2 rfl (by decide) _ _ _ rfl (hop.alloc _) ⟨wr.heap.size, 0, none⟩ 1 1 [.int .i64 (0)] rfl rfl (cell_one_new _ _ _) (by simp [Value.oneCell']) (by unfold maxLen; omega) (by omega) (by simp; omega) ?_; intro v' w4 oo ga' _; obtain ⟨a', cap', rfl⟩ := own_form oo; have hb4 : Below (w.heap.size + 2) wr w4 := ((Below.refl (w.heap.size + 2) wr).alloc (by omega) _).grown ga' (by simp; omega) (fun g hg => (hop.lt g hg).1); have C0 := (hb4.cell (by simp)).trans c0; have C1 := (hb4.cell (by simp)).trans c1; have C2 := (hb4.frozen (by simp)).trans c2; have HB := Lib.hid (hbel.out.trans (hb4.mono (by omega))); have HW : w.heap.size + 1 < w4.heap.size := block_lt_of_cell C0; have OO := Lib.hid oo; clear ga' hb4 c0 c1 c2 hbel hop oo)
          exact ⟨⟨Q, k + 1, a', cap', os ++ [0], by first | rfl | rw [hQ'], q1, q2, HL, HG, HS, HNN, (World.cell?_setCell_other _ _ _ _ (by simp)).trans C0, World.cell?_setCell_same _ _ _ C1, (World.frozen?_setCell _ _ _ _).trans C2, (by rw [List.map_append]; exact ownsRow_setCell_below OO.out (a := ⟨w.heap.size + 1, 1, none⟩) (by simp) _), Lib.hid (HB.out.setCell (p := ⟨w.heap.size + 1, 1, none⟩) (by simp) _)⟩, by first | exact hnat | (rw [hQ']; exact hnat)⟩
        · have ht : m.tmod 10 = -D := by have := htm hm0; split at hd <;> omega
          have hQ' : m.tdiv 10 = Q := hQ.symm
          clear hd hQ hm
          go_wp2_with (at_builtin; refine wpList_append_own _ rfl (.tmp 17) (.tmp 19) 35 rfl (w.heap.size + 2) 3 i0 (.int .i64 0) 1 8 Tryz.underlying35 hi hz0 hz1 hz2 rfl (by decide) _ _ _ rfl (hop.alloc _) ⟨wr.heap.size, 0, none⟩ 1 1 [.int .i64 (D)] rfl rfl (cell_one_new _ _ _) (by simp [Value.oneCell']) (by unfold maxLen; omega) (by omega) (by simp; omega) ?_; intro v' w4 oo ga' _; obtain ⟨a', cap', rfl⟩ := own_form oo; have hb4 : Below (w.heap.size + 2) wr w4 := ((Below.refl (w.heap.size + 2) wr).alloc (by omega) _).grown ga' (by simp; omega) (fun g hg => (hop.lt g hg).1); have C0 := (hb4.cell (by simp)).trans c0; have C1 := (hb4.cell (by simp)).trans c1; have C2 := (hb4.frozen (by simp)).trans c2; have HB := Lib.hid (hbel.out.trans (hb4.mono (by omega))); have HW : w.heap.size + 1 < w4.heap.size := block_lt_of_cell C0; have OO := Lib.hid oo; clear ga' hb4 c0 c1 c2 hbel hop oo)
          exact ⟨⟨Q, k + 1, a', cap', os ++ [D], by first | rfl | rw [hQ'], q1, q2, HL, HG, HS, HNN, (World.cell?_setCell_other _ _ _ _ (by simp)).trans C0, World.cell?_setCell_same _ _ _ C1, (World.frozen?_setCell _ _ _ _).trans C2, (by rw [List.map_append]; exact ownsRow_setCell_below OO.out (a := ⟨w.heap.size + 1, 1, none⟩) (by simp) _), Lib.hid (HB.out.setCell (p := ⟨w.heap.size + 1, 1, none⟩) (by simp) _)⟩, by first | exact hnat | (rw [hQ']; exact hnat)⟩
      · have ht : m % 10 = D := by
          rw [Int.tmod_eq_emod_of_nonneg (by omega)] at hd
          split at hd <;> omega
        have hQ' : m / 10 = Q := by rw [hQ, Int.tdiv_eq_ediv_of_nonneg (by omega)]
        clear hd hQ hm
        go_wp2_with (at_builtin; refine wpList_append_own _ rfl (.tmp 17) (.tmp 19) 35 rfl (w.heap.size + 2) 3 i0 (.int .i64 0) 1 8 Tryz.underlying35 hi hz0 hz1 hz2 rfl (by decide) _ _ _ rfl (hop.alloc _) ⟨wr.heap.size, 0, none⟩ 1 1 [.int .i64 (D)] rfl rfl (cell_one_new _ _ _) (by simp [Value.oneCell']) (by unfold maxLen; omega) (by omega) (by simp; omega) ?_; intro v' w4 oo ga' _; obtain ⟨a', cap', rfl⟩ := own_form oo; have hb4 : Below (w.heap.size + 2) wr w4 := ((Below.refl (w.heap.size + 2) wr).alloc (by omega) _).grown ga' (by simp; omega) (fun g hg => (hop.lt g hg).1); have C0 := (hb4.cell (by simp)).trans c0; have C1 := (hb4.cell (by simp)).trans c1; have C2 := (hb4.frozen (by simp)).trans c2; have HB := Lib.hid (hbel.out.trans (hb4.mono (by omega))); have HW : w.heap.size + 1 < w4.heap.size := block_lt_of_cell C0; have OO := Lib.hid oo; clear ga' hb4 c0 c1 c2 hbel hop oo)
        exact ⟨⟨Q, k + 1, a', cap', os ++ [D], by first | rfl | rw [hQ'], q1, q2, HL, HG, HS, HNN, (World.cell?_setCell_other _ _ _ _ (by simp)).trans C0, World.cell?_setCell_same _ _ _ C1, (World.frozen?_setCell _ _ _ _).trans C2, (by rw [List.map_append]; exact ownsRow_setCell_below OO.out (a := ⟨w.heap.size + 1, 1, none⟩) (by simp) _), Lib.hid (HB.out.setCell (p := ⟨w.heap.size + 1, 1, none⟩) (by simp) _)⟩, by first | exact hnat | (rw [hQ']; exact hnat)⟩


def numV (s : Bool) (N : Int) : Int := if s then -N else N
theorem sz_numV (s : Bool) (N : Int) (h : 0 ≤ N) : szV (numV s N) = N := by cases s <;> simp [szV, numV] <;> omega
theorem neg_numV (s : Bool) (N : Int) (h : 1 ≤ N) : decide (numV s N < 0) = s := by cases s <;> simp [numV] <;> omega
theorem val_take_snoc (ds : List Int) (m : Nat) (hm : m < ds.length) : ds.take (m + 1) = ds.take m ++ [ds[m]?.getD 0] := by
  rw [List.take_add_one]; simp [hm]
theorem val_take_nought (ds : List Int) (m : Nat) (hm : m < ds.length) (h : ds[m]?.getD 0 = 0) (hv : val (ds.take (m + 1)) = val ds) : val (ds.take m) = val ds := by
  rw [val_take_snoc ds m hm, val_snoc, h] at hv; omega
theorem val_pos {ds : List Int} (hg : Good ds) (hn : Norm ds) (hne : ds ≠ []) : 1 ≤ val ds := by
  have := val_ge hg hn hne
  have := ten_pos (ds.length - 1)
  omega
/-- what trim answers: the same row, shorter -/
def TrimRes (w : World) (a : Option Addr) (cap : Nat) (ds : List Int) (N : Int) (e : Ending) (w' : World) : Prop :=
  ∃ k, k ≤ ds.length ∧ e = .returned (.agg #[.bool (decide (N < 0)), .slice a k cap]) ∧ Good (ds.take k) ∧ Norm (ds.take k) ∧ val (ds.take k) = szV N ∧ Below w.heap.size w w'
theorem bigV_take {w : World} {a : Option Addr} {cap k : Nat} {ds : List Int} {N : Int} (hk : k ≤ ds.length) (h1 : ds.length ≤ cap) (h2 : cap ≤ 9223372036854775807) (hd : DigA w a ds) (hg : Good (ds.take k)) (hn : Norm (ds.take k)) (hv : val (ds.take k) = szV N) :
    BigV w (.agg #[.bool (decide (N < 0)), .slice a k cap]) N := by
  have hle : (ds.take k).length = k := by rw [List.length_take]; omega
  refine ⟨.slice a k cap, ds.take k, rfl, ⟨a, cap, by rw [hle], by omega, h2, fun j hj => ?_⟩, hg, hn, hv⟩
  rw [hle] at hj
  obtain ⟨g', off', h1, h2⟩ := hd j (by omega)
  exact ⟨g', off', h1, by rw [show (List.take k ds)[j]?.getD 0 = ds[j]?.getD 0 by rw [List.getElem?_take_of_lt hj]]; exact h2⟩
set_option maxRecDepth 100000 in
set_option maxHeartbeats 3200000 in
theorem trim_any (s : Bool) (a : Option Addr) (cap : Nat) (ds : List Int) (w : World) (hl : ds.length ≤ 6300) (hg : Good ds) (hc1 : ds.length ≤ cap) (_hc2 : cap ≤ 9223372036854775807) (ha : DigA w a ds) :
    Calls Tryz.prog 37 #[.agg #[.bool s, .slice a ds.length cap]] w (TrimRes w a cap ds (numV s (val ds))) := by
  have hA := Lib.hid ha; have gA := Lib.hid hg
  obtain ⟨L, hL⟩ : ∃ L, L = ds.length := ⟨_, rfl⟩
  have HL : Hid (L = ds.length) := Lib.hid hL
  rw [← hL] at hl hc1 ⊢
  clear ha hg hL
  go_enter Tryz.func37, Tryz.ntmps37
  go_wp2_with fail
  go_loopw [] (fun wr => ∃ k : Nat, k ≤ L ∧ Hid (val (ds.take k) = val ds) ∧
      wr.cell? ⟨w.heap.size, 0, none⟩ = some (.bool s) ∧ wr.cell? ⟨w.heap.size, 1, none⟩ = some (.slice a k cap) ∧ wr.frozen? ⟨w.heap.size, 0, none⟩ = false ∧ wr.frozen? ⟨w.heap.size, 1, none⟩ = false ∧
      wr.cell? ⟨w.heap.size + 1, 0, none⟩ = some (.bool false) ∧ wr.cell? ⟨w.heap.size + 1, 1, none⟩ = some (.slice none 0 0) ∧ wr.frozen? ⟨w.heap.size + 1, 0, none⟩ = false ∧ wr.frozen? ⟨w.heap.size + 1, 1, none⟩ = false ∧
      Hid (Below w.heap.size w wr)) (fun wr => match wr.cell? ⟨w.heap.size, 1, none⟩ with | some (.slice _ k _) => k | _ => 0)
  case atStart =>
    exact ⟨L, Nat.le_refl _, Lib.hid (by rw [HL.out, List.take_length]), by simp [go_sem], by simp [go_sem], by simp [go_sem], by simp [go_sem], by simp [go_sem], by simp [go_sem], by simp [go_sem], by simp [go_sem], Lib.hid (by go_grown)⟩
  case round =>
    obtain ⟨k, hk, hv, c0, c1, f0, f1, d0, d1, e0, e1, hb⟩ := hrel
    have hsz : w.heap.size + 1 < wr.heap.size := block_lt_of_cell d0
    cases k with
    | zero =>
      have hzero : Hid (val ds = 0) := Lib.hid (by have := hv.out; simp [val] at this; omega)
      have S0 : ((wr.setCell ⟨w.heap.size, 0, none⟩ (.bool false)).cell? ⟨w.heap.size, 0, none⟩) = some (.bool false) := World.cell?_setCell_same _ _ _ c0
      have S1 : ((wr.setCell ⟨w.heap.size, 0, none⟩ (.bool false)).cell? ⟨w.heap.size, 1, none⟩) = some (.slice a 0 cap) := by rw [World.cell?_setCell_other _ _ _ _ (by simp)]; exact c1
      go_wp2_with fail
      have e0' : (((wr.setCell ⟨w.heap.size, 0, none⟩ (.bool false)).setCell ⟨w.heap.size + 1, 0, none⟩ (.bool false)).setCell ⟨w.heap.size + 1, 1, none⟩ (.slice a 0 cap)).cell? ⟨w.heap.size + 1, 0, none⟩ = some (.bool false) := by
        rw [World.cell?_setCell_other _ _ _ _ (by simp)]; exact World.cell?_setCell_same _ _ _ ((World.cell?_setCell_other _ _ _ _ (by simp)).trans d0)
      have e1' : (((wr.setCell ⟨w.heap.size, 0, none⟩ (.bool false)).setCell ⟨w.heap.size + 1, 0, none⟩ (.bool false)).setCell ⟨w.heap.size + 1, 1, none⟩ (.slice a 0 cap)).cell? ⟨w.heap.size + 1, 1, none⟩ = some (.slice a 0 cap) :=
        World.cell?_setCell_same _ _ _ (by rw [World.cell?_setCell_other _ _ _ _ (by simp)]; exact ((World.cell?_setCell_other _ _ _ _ (by simp)).trans d1))
      refine bodyPost_ret (v := .agg #[(.bool false), (.slice a 0 cap)]) (by simp [results, Tryz.results37, go_sem, e0', e1']) rfl ?_
      refine ⟨0, Nat.zero_le _, ?_, by simpa using good_nil, .inl (by simp), ?_, ?_⟩
      · rw [hzero.out]; cases s <;> rfl
      · rw [hzero.out]; cases s <;> rfl
      · exact ((hb.out.setCell (p := ⟨w.heap.size, 0, none⟩) (by simp) _).setCell (p := ⟨w.heap.size + 1, 0, none⟩) (by simp) _).setCell (p := ⟨w.heap.size + 1, 1, none⟩) (by simp) _
    | succ m =>
      have hm : m < ds.length := by rw [← HL.out]; omega
      obtain ⟨g, off, hea, ca⟩ := hA.out m hm
      subst hea
      have ca' := (hb.out.cell (block_lt_of_cell ca)).trans ca
      have hgw := block_lt_of_cell ca'
      clear ca
      obtain ⟨x, hx⟩ : ∃ x, x = ds[m]?.getD 0 := ⟨_, rfl⟩
      rw [← hx] at ca'
      have HX := Lib.hid hx
      clear hx hm
      by_cases h0 : x = 0
      · subst h0
        go_wp2_with fail
        refine ⟨⟨m, by omega, Lib.hid (val_take_nought ds m (by rw [← HL.out]; omega) HX.out.symm hv.out), (World.cell?_setCell_other _ _ _ _ (by simp)).trans c0, World.cell?_setCell_same _ _ _ c1, (World.frozen?_setCell _ _ _ _).trans f0, (World.frozen?_setCell _ _ _ _).trans f1, (World.cell?_setCell_other _ _ _ _ (by simp)).trans d0, (World.cell?_setCell_other _ _ _ _ (by simp)).trans d1, (World.frozen?_setCell _ _ _ _).trans e0, (World.frozen?_setCell _ _ _ _).trans e1, Lib.hid (hb.out.setCell (p := ⟨w.heap.size, 1, none⟩) (by simp) _)⟩, ?_⟩
        rw [World.cell?_setCell_same _ _ _ c1, c1]; exact Nat.lt_succ_self m
      · go_wp2_with fail
        have hno : Norm (ds.take (m + 1)) := .inr ⟨ds.take m, x, by rw [HX.out]; exact val_take_snoc ds m (by rw [← HL.out]; omega), h0⟩
        have hgo : Good (ds.take (m + 1)) := good_sub gA.out fun _ hx => List.mem_of_mem_take hx
        have hle : (ds.take (m + 1)).length = m + 1 := by rw [List.length_take, ← HL.out]; omega
        have hp := val_pos hgo hno (fun e => by rw [e] at hle; simp at hle)
        rw [hv.out] at hp
        have e0' : ((wr.setCell ⟨w.heap.size + 1, 0, none⟩ (.bool s)).setCell ⟨w.heap.size + 1, 1, none⟩ (.slice (some ⟨g, off, none⟩) (m + 1) cap)).cell? ⟨w.heap.size + 1, 0, none⟩ = some (.bool s) := by
          rw [World.cell?_setCell_other _ _ _ _ (by simp)]; exact World.cell?_setCell_same _ _ _ d0
        have e1' : ((wr.setCell ⟨w.heap.size + 1, 0, none⟩ (.bool s)).setCell ⟨w.heap.size + 1, 1, none⟩ (.slice (some ⟨g, off, none⟩) (m + 1) cap)).cell? ⟨w.heap.size + 1, 1, none⟩ = some (.slice (some ⟨g, off, none⟩) (m + 1) cap) :=
          World.cell?_setCell_same _ _ _ (by rw [World.cell?_setCell_other _ _ _ _ (by simp)]; exact d1)
        refine bodyPost_ret (v := .agg #[(.bool s), (.slice (some ⟨g, off, none⟩) (m + 1) cap)]) (by simp [results, Tryz.results37, go_sem, e0', e1']) rfl ?_
        refine ⟨m + 1, by rw [← HL.out]; omega, ?_, hgo, hno, ?_, ?_⟩
        · rw [neg_numV s _ hp]
        · rw [sz_numV s _ (by omega), hv.out]
        · exact (hb.out.setCell (p := ⟨w.heap.size + 1, 0, none⟩) (by simp) _).setCell (p := ⟨w.heap.size + 1, 1, none⟩) (by simp) _


theorem big_parts {w : World} {v : Value} {N : Int} (h : BigV w v N) : ∃ a cap ds, v = .agg #[.bool (decide (N < 0)), .slice a ds.length cap] ∧ ds.length ≤ cap ∧ cap ≤ 9223372036854775807 ∧ DigA w a ds ∧ Good ds ∧ Norm ds ∧ val ds = szV N := by
  obtain ⟨s, ds, rfl, ⟨a, cap, rfl, h1, h2, h3⟩, h4⟩ := h
  exact ⟨a, cap, ds, rfl, h1, h2, h3, h4⟩
theorem two_cells {w : World} {b : Nat} {x y x0 y0 : Value} (h0 : w.cell? ⟨b, 0, none⟩ = some x0) (h1 : w.cell? ⟨b, 1, none⟩ = some y0) :
    ((w.setCell ⟨b, 0, none⟩ x).setCell ⟨b, 1, none⟩ y).cell? ⟨b, 0, none⟩ = some x ∧ ((w.setCell ⟨b, 0, none⟩ x).setCell ⟨b, 1, none⟩ y).cell? ⟨b, 1, none⟩ = some y :=
  ⟨(World.cell?_setCell_other _ _ _ _ (by simp)).trans (World.cell?_setCell_same _ _ _ h0), World.cell?_setCell_same _ _ _ ((World.cell?_setCell_other _ _ _ _ (by simp)).trans h1)⟩
theorem frozen_below {w w' : World} {a : Addr} {v : Value} (h : w.frozen? a = false) (hc : w.cell? a = some v) (hb : Below w.heap.size w w') : w'.frozen? a = false := (hb.frozen (block_lt_of_cell hc)).trans h
theorem digA_own {w : World} {B : Nat} {T : TypeId} {a : Option Addr} {cap : Nat} {ds : List Int} (h : w.ownsRow B T 1 (.slice a ds.length cap) ds.length (ds.map (Value.int .i64))) : ds.length ≤ cap ∧ cap ≤ 9223372036854775807 ∧ DigA w a ds := by
  obtain ⟨a', cap', he, h1, h2, h3⟩ := dig_own h
  cases he
  exact ⟨h1, h2, h3⟩

theorem sz_same (X Y : Int) (h : (decide (X < 0) == decide (Y < 0)) = true) : decide (cmpV (szV X) (szV Y) = 0) = decide (X = Y) := by
  unfold cmpV szV
  by_cases h1 : X < 0 <;> by_cases h2 : Y < 0 <;> simp [h1, h2] at h ⊢ <;> split <;> (try split) <;> simp <;> omega
theorem sz_other (X Y : Int) (h : (decide (X < 0) == decide (Y < 0)) = false) : decide (X = Y) = false := by
  by_cases h1 : X < 0 <;> by_cases h2 : Y < 0 <;> simp [h1, h2] at h ⊢ <;> omega
set_option maxRecDepth 100000 in
set_option maxHeartbeats 1600000 in
theorem bsame_any (X Y : Int) (u v : Value) (w : World) (hX : szV X < ten 6000) (hY : szV Y < ten 6000) (hu : BigV w u X) (hv : BigV w v Y) :
    Calls Tryz.prog 17 #[u, v] w fun e w' => e = .returned (.bool (decide (X = Y))) ∧ Below w.heap.size w w' := by
  obtain ⟨a, cap, xs, rfl, c1, c2, hd, hg, hn, hvx⟩ := big_parts hu
  obtain ⟨b, cbp, ys, rfl, e1, e2, kd, kg, kn, hvy⟩ := big_parts hv
  have hl : xs.length ≤ 6000 := len_le hg hn (by rw [hvx]; exact hX)
  have kl : ys.length ≤ 6000 := len_le kg kn (by rw [hvy]; exact hY)
  have HD := Lib.hid hd; have HG := Lib.hid hg; have HN := Lib.hid hn; have HV := Lib.hid hvx
  have KD := Lib.hid kd; have KG := Lib.hid kg; have KN := Lib.hid kn; have KV := Lib.hid hvy
  clear hd hg hn hvx kd kg kn hvy hu hv hX hY
  go_enter Tryz.func17, Tryz.ntmps17
  obtain ⟨sx, hsx⟩ : ∃ sx, sx = decide (X < 0) := ⟨_, rfl⟩
  obtain ⟨sy, hsy⟩ : ∃ sy, sy = decide (Y < 0) := ⟨_, rfl⟩
  obtain ⟨D, hD⟩ : ∃ D, D = decide (X = Y) := ⟨_, rfl⟩
  rw [← hsx, ← hsy, ← hD]
  cases hs : (sx == sy) with
  | true =>
    have HA : Hid (decide (cmpV (val xs) (val ys) = 0) = D) := Lib.hid (by rw [HV.out, KV.out, hD]; exact sz_same X Y (by rw [← hsx, ← hsy]; exact hs))
    clear hsx hsy hD
    go_wp2_with fail
    obtain ⟨w2, h2⟩ : ∃ w2, w2 = (w.alloc (.cells #[.bool sx, .slice a xs.length cap] 37)).alloc (.cells #[.bool sy, .slice b ys.length cbp] 37) := ⟨_, rfl⟩
    have z : Below w.heap.size w w2 := by rw [h2]; go_grown
    rw [← h2]
    clear h2
    refine (sizes_any a b cap cbp xs ys w2 (by omega) (by omega) HG.out KG.out HN.out KN.out (digA_below HD.out z) (digA_below KD.out z)).mono ?_
    rintro e w' ⟨rfl, n, rfl⟩
    go_wp2_with fail
    go_ret
    exact ⟨ret_one (congrArg Value.bool (by rw [← HA.out]; rfl)), below_drewN z n⟩
  | false =>
    have HA : Hid (D = false) := Lib.hid (by rw [hD]; exact sz_other X Y (by rw [← hsx, ← hsy]; exact hs))
    clear hsx hsy hD
    go_wp2_with fail
    go_ret
    exact ⟨ret_one (congrArg Value.bool HA.out.symm), by go_grown⟩
def fitsV (X : Int) : Bool := decide (-9223372036854775808 ≤ X ∧ X ≤ 9223372036854775807)
theorem fits_low (X : Int) (h : X < 0) : decide (cmpV (szV X) (szV (-9223372036854775808)) ≤ 0) = fitsV X := by
  have e : szV (-9223372036854775808) = 9223372036854775808 := by decide
  rw [e]
  unfold cmpV szV fitsV
  rw [if_pos h]
  split <;> (try split) <;> simp <;> omega
theorem fits_high (X : Int) (h : ¬ X < 0) : decide (cmpV (szV X) (szV 9223372036854775807) ≤ 0) = fitsV X := by
  have e : szV 9223372036854775807 = 9223372036854775807 := by decide
  rw [e]
  unfold cmpV szV fitsV
  rw [if_neg h]
  split <;> (try split) <;> simp <;> omega
theorem lows (X : Int) (h : -9223372036854775808 ≤ X) (h' : X ≤ 9223372036854775807) : szV X < ten 6000 := by
  have := ten_mono (show 19 ≤ 6000 by omega)
  rw [ten_19] at this
  unfold szV; split <;> omega
theorem sz_low : szV (-9223372036854775808) < ten 6000 := lows _ (by omega) (by omega)
theorem sz_high : szV 9223372036854775807 < ten 6000 := lows _ (by omega) (by omega)
set_option maxRecDepth 100000 in
set_option maxHeartbeats 1600000 in
theorem fits_any (X : Int) (u : Value) (w : World) (hX : szV X < ten 6000) (hu : BigV w u X) :
    Calls Tryz.prog 38 #[u] w fun e w' => e = .returned (.bool (fitsV X)) ∧ Below w.heap.size w w' := by
  obtain ⟨a, cap, xs, rfl, c1, c2, hd, hg, hn, hvx⟩ := big_parts hu
  have hl : xs.length ≤ 6000 := len_le hg hn (by rw [hvx]; exact hX)
  have HD := Lib.hid hd; have HG := Lib.hid hg; have HN := Lib.hid hn; have HV := Lib.hid hvx
  clear hd hg hn hvx hu hX
  go_enter Tryz.func38, Tryz.ntmps38
  obtain ⟨sx, hsx⟩ : ∃ sx, sx = decide (X < 0) := ⟨_, rfl⟩
  obtain ⟨D, hD⟩ : ∃ D, D = fitsV X := ⟨_, rfl⟩
  rw [← hsx, ← hD]
  have HSX := Lib.hid hsx; have HDX := Lib.hid hD
  clear hsx hD
  go_wp2_with fail
  obtain ⟨w1, h1⟩ : ∃ w1, w1 = w.alloc (.cells #[.bool sx, .slice a xs.length cap] 37) := ⟨_, rfl⟩
  have p0 : w1.cell? ⟨w.heap.size, 0, none⟩ = some (.bool sx) := by rw [h1]; simp [go_sem]
  have p1 : w1.cell? ⟨w.heap.size, 1, none⟩ = some (.slice a xs.length cap) := by rw [h1]; simp [go_sem]
  have z : Below w.heap.size w w1 := by rw [h1]; go_grown
  rw [← h1]
  clear h1
  refine (of_any _ _ (by omega) (by omega)).mono ?_
  rintro e w2 ⟨r1, rfl, hr1, hb1⟩
  go_wp2_with fail
  refine (of_any _ _ (by omega) (by omega)).mono ?_
  rintro e w3 ⟨r2, rfl, hr2, hb2⟩
  replace p0 := cell_below (cell_below p0 hb1) hb2
  replace p1 := cell_below (cell_below p1 hb1) hb2
  replace z := (z.trans (hb1.mono z.size)).trans (hb2.mono (Nat.le_trans z.size hb1.size))
  replace hr1 := bigV_below hr1 hb2
  clear hb1 hb2
  obtain ⟨b1, q1, ds1, rfl, _, _, m1, m2, m3, m4⟩ := big_parts hr1
  obtain ⟨b2, q2, ds2, rfl, _, _, n1, n2, n3, n4⟩ := big_parts hr2
  have l1 : ds1.length ≤ 6000 := len_le m2 m3 (by rw [m4]; exact sz_low)
  have l2 : ds2.length ≤ 6000 := len_le n2 n3 (by rw [n4]; exact sz_high)
  have M1 := Lib.hid m1; have M2 := Lib.hid m2; have M3 := Lib.hid m3; have M4 := Lib.hid m4
  have N1 := Lib.hid n1; have N2 := Lib.hid n2; have N3 := Lib.hid n3; have N4 := Lib.hid n4
  clear hr1 hr2 m1 m2 m3 m4 n1 n2 n3 n4
  have hlt := block_lt_of_cell p0
  cases sx with
  | true =>
    have HR : Hid (decide (cmpV (val xs) (val ds1) ≤ 0) = D) := Lib.hid (by rw [HV.out, M4.out, HDX.out]; exact fits_low X (by have := HSX.out; simpa using this.symm))
    go_wp2_with fail
    refine (sizes_any a b1 cap q1 xs ds1 _ (by omega) (by omega) HG.out M2.out HN.out M3.out (digA_below HD.out (show Below w.heap.size w _ from ((z.alloc z.size _).alloc (by simp; have := z.size; omega) _))) (digA_below M1.out (show Below w3.heap.size w3 _ by go_grown))).mono ?_
    rintro e w' ⟨rfl, n, rfl⟩
    go_wp2_with fail
    go_ret
    exact ⟨ret_one (congrArg Value.bool HR.out), below_drewN ((z.alloc z.size _).alloc (by simp; have := z.size; omega) _) n⟩
  | false =>
    have HR : Hid (decide (cmpV (val xs) (val ds2) ≤ 0) = D) := Lib.hid (by rw [HV.out, N4.out, HDX.out]; exact fits_high X (by have := HSX.out; simpa using this.symm))
    go_wp2_with fail
    refine (sizes_any a b2 cap q2 xs ds2 _ (by omega) (by omega) HG.out N2.out HN.out N3.out (digA_below HD.out (show Below w.heap.size w _ from ((z.alloc z.size _).alloc (by simp; have := z.size; omega) _))) (digA_below N1.out (show Below w3.heap.size w3 _ by go_grown))).mono ?_
    rintro e w' ⟨rfl, n, rfl⟩
    go_wp2_with fail
    go_ret
    exact ⟨ret_one (congrArg Value.bool HR.out), below_drewN ((z.alloc z.size _).alloc (by simp; have := z.size; omega) _) n⟩
theorem kept_two {w w1 w2 : World} {a b : Addr} {x y : Value} (h : w1.cell? a = some x ∧ w1.cell? b = some y ∧ Below w.heap.size w w1) (hb : Below w1.heap.size w1 w2) :
    w2.cell? a = some x ∧ w2.cell? b = some y ∧ Below w.heap.size w w2 :=
  ⟨cell_below h.1 hb, cell_below h.2.1 hb, h.2.2.trans (hb.mono h.2.2.size)⟩
end Go.Proofs.YteeajhnbifpklaaGreatDoor
