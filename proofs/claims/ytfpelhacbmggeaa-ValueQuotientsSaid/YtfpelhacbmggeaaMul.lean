/- The contract of beckref02's Mul over this seat's program. -/
import Derived.Test.YtfpelhacbmggeaaBig6
import Derived.Test.YtfpelhacbmggeaaMulPlain
import Derived.Deep.OwnRows
import Derived.BigRegion
namespace Go.Proofs.Ytfpelhacbmggeaa
open Go.RowKit
theorem rowIs_below {w w' : World} {b : Nat} {t : TypeId} {n : Nat} {f : Nat → Value} (h : w.rowIs b t n f) (hb : Below w.heap.size w w') : w'.rowIs b t n f := h.of_block (hb.block b h.lt)
theorem kept_mul {w1 : World} {a b c d p : Addr} {x y z u v : Value} (h : w1.cell? a = some x ∧ w1.cell? b = some y ∧ w1.cell? c = some z ∧ w1.cell? d = some u) (ha : a.block < p.block) (hb : b.block < p.block) (hc : c.block < p.block) (hd : d.block < p.block) :
    (w1.setCell p v).cell? a = some x ∧ (w1.setCell p v).cell? b = some y ∧ (w1.setCell p v).cell? c = some z ∧ (w1.setCell p v).cell? d = some u := by
  have k : ∀ q : Addr, q.block < p.block → (w1.setCell p v).cell? q = w1.cell? q := fun q hq => World.cell?_setCell_other _ _ _ _ (fun e => by rw [e] at hq; omega)
  exact ⟨(k _ ha).trans h.1, (k _ hb).trans h.2.1, (k _ hc).trans h.2.2.1, (k _ hd).trans h.2.2.2⟩
theorem mul_sign (X Y : Int) : numV (decide (X < 0) != decide (Y < 0)) (szV X * szV Y) = X * Y := by
  unfold numV szV
  by_cases h1 : X < 0 <;> by_cases h2 : Y < 0 <;> simp [h1, h2, Int.neg_mul, Int.mul_neg]
def rowF (os : List Int) (j : Nat) : Value := .int .i64 (at0 os j)
set_option maxHeartbeats 3200000 in
theorem bmul_any (X Y : Int) (u v : Value) (w : World) (hX : szV X < ten 60) (hY : szV Y < ten 60) (hu : BigV w u X) (hv : BigV w v Y) :
    Calls Try.prog 21 #[u, v] w (BigRes w (X * Y)) := by
  obtain ⟨a, cap, xs, rfl, c1, c2, hd, hg, hn, hvx⟩ := big_parts hu
  obtain ⟨b, cbp, ys, rfl, e1, e2, kd, kg, kn, hvy⟩ := big_parts hv
  have hl : xs.length ≤ 60 := len_le hg hn (by rw [hvx]; exact hX)
  have kl : ys.length ≤ 60 := len_le kg kn (by rw [hvy]; exact hY)
  obtain ⟨la, hla⟩ : ∃ la, la = xs.length := ⟨_, rfl⟩
  obtain ⟨lb, hlb⟩ : ∃ lb, lb = ys.length := ⟨_, rfl⟩
  have HLA : Hid (la = xs.length) := Lib.hid hla
  have HLB : Hid (lb = ys.length) := Lib.hid hlb
  rw [← hla] at hl c1 ⊢
  rw [← hlb] at kl e1 ⊢
  have HD := Lib.hid hd; have HG := Lib.hid hg; have HV := Lib.hid hvx
  have KD := Lib.hid kd; have KG := Lib.hid kg; have KV := Lib.hid hvy
  clear hd hg hn hvx kd kg kn hvy hu hv hX hY hla hlb
  obtain ⟨sx, hsx⟩ : ∃ sx, sx = decide (X < 0) := ⟨_, rfl⟩
  obtain ⟨sy, hsy⟩ : ∃ sy, sy = decide (Y < 0) := ⟨_, rfl⟩
  have HA : Hid (numV (sx != sy) (szV X * szV Y) = X * Y) := Lib.hid (by rw [hsx, hsy]; exact mul_sign X Y)
  rw [← hsx, ← hsy]
  clear hsx hsy
  have hmk := run_make_row' (P := Try.prog) 33 3 (.int .i64 0) 8 Try.underlying33 infoD rfl .i64 .i64 (la + lb + 1) (by omega) (by omega)
  have ec : ((la + lb + 1 : Nat) : Int) = (la : Int) + (lb : Int) + 1 := by omega
  rw [ec] at hmk
  clear ec
  go_enter Try.func21, Try.ntmps21
  go_wp2_with fail
  clear hmk
  obtain ⟨w2, h2⟩ : ∃ w2, w2 = ((w.alloc (.cells #[.bool sx, .slice a la cap] 35)).alloc (.cells #[.bool sy, .slice b lb cbp] 35)).alloc (.cells #[.bool false, .slice none 0 0] 35) := ⟨_, rfl⟩
  have p0 : w2.cell? ⟨w.heap.size, 0, none⟩ = some (.bool sx) := by rw [h2]; simp [go_sem]
  have p1 : w2.cell? ⟨w.heap.size, 1, none⟩ = some (.slice a la cap) := by rw [h2]; simp [go_sem]
  have q0 : w2.cell? ⟨w.heap.size + 1, 0, none⟩ = some (.bool sy) := by rw [h2]; simp [go_sem]
  have q1 : w2.cell? ⟨w.heap.size + 1, 1, none⟩ = some (.slice b lb cbp) := by rw [h2]; simp [go_sem]
  have t0 : w2.cell? ⟨w.heap.size + 1 + 1, 0, none⟩ = some (.bool false) := by rw [h2]; simp [go_sem]
  have t1 : w2.cell? ⟨w.heap.size + 1 + 1, 1, none⟩ = some (.slice none 0 0) := by rw [h2]; simp [go_sem]
  have t2 : w2.frozen? ⟨w.heap.size + 1 + 1, 0, none⟩ = false := by rw [h2]; simp [go_sem]
  have t3 : w2.frozen? ⟨w.heap.size + 1 + 1, 1, none⟩ = false := by rw [h2]; simp [go_sem]
  have z : Below w.heap.size w w2 := by rw [h2]; go_grown
  have hz3 : w2.heap.size = w.heap.size + 1 + 1 + 1 := by rw [h2]; simp [go_sem]
  rw [← h2]
  clear h2
  go_loopw [21] (fun x wr => ∃ (i : Nat) (os : List Int), x = .int .i64 i ∧ i ≤ la ∧ Hid (os.length = la + lb + 1) ∧ Hid (val os = val (xs.take i) * val ys) ∧ Hid (Within (81 * (i * 60 : Nat)) os) ∧
      wr.rowIs (w.heap.size + 1 + 1 + 1) 3 (la + lb + 1) (rowF os) ∧ Below w2.heap.size w2 wr) (fun x _ => la - (intOf x).toNat)
  case atStart =>
    refine ⟨0, List.replicate (la + lb + 1) 0, rfl, Nat.zero_le _, Lib.hid (by simp), Lib.hid (by rw [val_zeros]; simp [val]), Lib.hid (fun j => by rw [at_zeros]; omega), ?_, by go_grown⟩
    rw [← hz3]
    exact (World.rowIs_made w2 (.int .i64 0) (la + lb + 1) 3).congr fun i _ => by unfold rowF; rw [at_zeros]
  case round =>
    obtain ⟨i, os, rfl, hi, hlen, hval, hwit, hrow, hbw⟩ := hrel
    have P0 := cell_below p0 hbw
    have P1 := cell_below p1 hbw
    have Q0 := cell_below q0 hbw
    have Q1 := cell_below q1 hbw
    have T0 := cell_below t0 hbw
    have T1 := cell_below t1 hbw
    have T2 := frozen_below t2 t0 hbw
    have T3 := frozen_below t3 t1 hbw
    have hlt := hrow.lt
    rcases Nat.lt_or_ge i la with hc | hc
    · go_wp2_with fail
      go_loopw [27] (fun x wr => ∃ (k : Nat) (os : List Int), x = .int .i64 k ∧ k ≤ lb ∧ Hid (os.length = la + lb + 1) ∧ Hid (val os = val (xs.take i) * val ys + ten i * (at0 xs i * val (ys.take k))) ∧ Hid (Within (81 * (i * 60 + k : Nat)) os) ∧
          wr.rowIs (w.heap.size + 1 + 1 + 1) 3 (la + lb + 1) (rowF os) ∧ Below w2.heap.size w2 wr) (fun x _ => lb - (intOf x).toNat)
      case atStart => exact ⟨0, os, rfl, Nat.zero_le _, hlen, Lib.hid (by rw [hval.out]; simp [val]), Lib.hid (by simpa using hwit.out), hrow, hbw⟩
      case round =>
        clear P0 P1 Q0 Q1 T0 T1 T2 T3 hlt hrow hbw hval hwit hlen
        clear os
        obtain ⟨k, os, rfl, hk, hlen, hval, hwit, hrow, hbw⟩ := hrel
        have P1 := cell_below p1 hbw
        have Q1 := cell_below q1 hbw
        have hlt := hrow.lt
        rcases Nat.lt_or_ge k lb with kc | kc
        · obtain ⟨ga, oa, hea, xa⟩ := HD.out i (by rw [← HLA.out]; omega)
          subst hea
          obtain ⟨gb, ob, heb, ya⟩ := KD.out k (by rw [← HLB.out]; omega)
          subst heb
          have XA := cell_below (cell_below xa z) hbw
          have YA := cell_below (cell_below ya z) hbw
          have gx := block_lt_of_cell xa
          have gy := block_lt_of_cell ya
          obtain ⟨x, hx⟩ : ∃ x, x = at0 xs i := ⟨_, rfl⟩
          obtain ⟨y, hy⟩ : ∃ y, y = at0 ys k := ⟨_, rfl⟩
          obtain ⟨u, hu⟩ : ∃ u, u = at0 os (i + k) := ⟨_, rfl⟩
          change _ = some (Value.int .i64 (at0 xs i)) at XA
          change _ = some (Value.int .i64 (at0 ys k)) at YA
          rw [← hx] at XA
          rw [← hy] at YA
          have UA := hrow.cell (show i + k < la + lb + 1 by omega)
          unfold rowF at UA
          rw [← hu] at UA
          have UF := hrow.frozen (i + k)
          have hd := digit_mul HG.out KG.out i k
          rw [← hx, ← hy] at hd
          have hw := hwit.out (i + k)
          rw [← hu] at hw
          have HS := Lib.hid (show val (os.set (i + k) (u + x * y)) = val (xs.take i) * val ys + ten i * (at0 xs i * val (ys.take (k + 1))) by
            rw [hu, hx, hy]; exact mul_step os xs ys i k (by rw [← HLA.out]; omega) (by rw [← HLB.out]; omega) (by rw [hlen.out, ← HLA.out, ← HLB.out]; omega) hval.out)
          have HI := Lib.hid (within_set hwit.out (i + k) (by rw [hlen.out]; omega) (B' := 81 * (i * 60 + (k + 1) : Nat)) (d := x * y) hd.1 (by omega))
          rw [← hu] at HI
          have HR := Lib.hid (hrow.set (i + k) (.int .i64 (u + x * y)))
          have b1 : (0 : Int) ≤ (i : Int) + (k : Int) := by omega
          have b2 : (i : Int) + (k : Int) < (la : Int) + (lb : Int) + 1 := by omega
          have b3 : (i : Int) < (la : Int) := by omega
          have b4 : (k : Int) < (lb : Int) := by omega
          have b5 : (0 : Int) ≤ (i : Int) := by omega
          have b6 : (0 : Int) ≤ (k : Int) := by omega
          have n1 : ((i : Int) + (k : Int)).toNat = i + k := by omega
          have w1 : IntKind.i64.wrap ((i : Int) + (k : Int)) = (i : Int) + (k : Int) := IntWalk.i64_in _ (by omega)
          have w5 : IntKind.i64.wrap (x * y) = x * y := IntWalk.i64_in _ (by omega)
          have w6 : IntKind.i64.wrap (u + x * y) = u + x * y := IntWalk.i64_in _ (by omega)
          have HH := Lib.hid hw
          clear hx hy hu hw hd hval hwit xa ya
          go_wp2_with fail
          go_region
          go_wp2_with fail
          refine ⟨⟨k + 1, os.set (i + k) (u + x * y), by go_num, by omega, Lib.hid (by rw [List.length_set]; exact hlen.out), HS, HI, World.rowIs.drew (HR.out.congr fun m _ => ?_), (hbw.setCell (p := ⟨w.heap.size + 1 + 1 + 1, i + k, none⟩) (by rw [hz3]; exact Nat.le_refl _) _).drew⟩, ?_⟩
          · unfold rowF
            rw [at_set os (i + k) m _ (by rw [hlen.out]; omega)]
            by_cases e : m = i + k
            · rw [if_pos e, if_pos e]
            · rw [if_neg e, if_neg e]
          · simp [intOf]; omega
        · have hkb : k = lb := by omega
          subst hkb
          go_wp2_with fail
          refine ⟨⟨i + 1, os, by go_num, by omega, hlen, Lib.hid (mul_row os xs ys i (by rw [← HLA.out]; omega) (by rw [hval.out, ← HLB.out])), Lib.hid (fun j => ?_), hrow, hbw⟩, ?_⟩
          · have := hwit.out j
            omega
          · simp [intOf]; omega
    · have hia : i = la := by omega
      subst hia
      go_wp2_with fail
      have HV0 := Lib.hid (show val os = val xs * val ys by rw [hval.out, HLA.out, List.take_length])
      have HC0 := Lib.hid (carried_start (B := 291600) (l := os) (fun j => by have := hwit.out j; omega))
      clear hval hwit
      go_loopw [8] (fun x wr => ∃ (n : Nat) (os : List Int), x = .int .i64 n ∧ n ≤ i + lb ∧ Hid (os.length = i + lb + 1) ∧ Hid (val os = val xs * val ys) ∧ Hid (Carried 291600 n os) ∧
          wr.rowIs (w.heap.size + 1 + 1 + 1) 3 (i + lb + 1) (rowF os) ∧ Below w2.heap.size w2 wr) (fun x _ => i + lb - (intOf x).toNat)
      case atStart => exact ⟨0, os, rfl, Nat.zero_le _, hlen, HV0, HC0, hrow, hbw⟩
      case round =>
        clear P0 P1 Q0 Q1 T0 T1 T2 T3 hlt hrow hbw HV0 HC0 hlen
        clear os
        obtain ⟨n, os, rfl, hn, hlen, hval, hcar, hrow, hbw⟩ := hrel
        have P0 := cell_below p0 hbw
        have P1 := cell_below p1 hbw
        have Q0 := cell_below q0 hbw
        have Q1 := cell_below q1 hbw
        have T0 := cell_below t0 hbw
        have T1 := cell_below t1 hbw
        have T2 := frozen_below t2 t0 hbw
        have T3 := frozen_below t3 t1 hbw
        have hlt := hrow.lt
        rcases Nat.lt_or_ge n (i + lb) with kc | kc
        · obtain ⟨u, hu⟩ : ∃ u, u = at0 os n := ⟨_, rfl⟩
          obtain ⟨v, hv⟩ : ∃ v, v = at0 os (n + 1) := ⟨_, rfl⟩
          have UA := hrow.cell (show n < i + lb + 1 by omega)
          have VA := hrow.cell (show n + 1 < i + lb + 1 by omega)
          unfold rowF at UA VA
          rw [← hu] at UA
          rw [← hv] at VA
          have UF := hrow.frozen n
          have VF := hrow.frozen (n + 1)
          have h1 := (hcar.out n).1
          have h2 := (hcar.out n).2.2.1 rfl
          have h3 := (hcar.out (n + 1)).1
          have h4 := (hcar.out (n + 1)).2.2.2 (by omega)
          rw [← hu] at h1 h2
          rw [← hv] at h3 h4
          have HS := Lib.hid (show val ((os.set (n + 1) (v + u / 10)).set n (u % 10)) = val xs * val ys by
            rw [hu, hv, carry_val os n (by rw [hlen.out]; omega)]; exact hval.out)
          have HI := Lib.hid (show Carried 291600 (n + 1) ((os.set (n + 1) (v + u / 10)).set n (u % 10)) by
            rw [hu, hv]; exact carry_step (by rw [hlen.out]; omega) hcar.out)
          have HR := Lib.hid ((hrow.set (n + 1) (.int .i64 (v + u / 10))).set n (.int .i64 (u % 10)))
          have b1 : (0 : Int) ≤ (n : Int) := by omega
          have b2 : (n : Int) + 1 < (i : Int) + (lb : Int) + 1 := by omega
          have b3 : (0 : Int) ≤ (n : Int) + 1 := by omega
          have b4 : (n : Int) < (i : Int) + (lb : Int) + 1 := by omega
          have n1 : ((n : Int) + 1).toNat = n + 1 := by omega
          have w1 : IntKind.i64.wrap ((n : Int) + 1) = (n : Int) + 1 := IntWalk.i64_in _ (by omega)
          have e1 : u.tdiv 10 = u / 10 := Int.tdiv_eq_ediv_of_nonneg h1
          have e3 : u.tmod 10 = u % 10 := Int.tmod_eq_emod_of_nonneg h1
          have w5 : IntKind.i64.wrap (u / 10) = u / 10 := IntWalk.i64_in _ (by omega)
          have w6 : IntKind.i64.wrap (v + u / 10) = v + u / 10 := IntWalk.i64_in _ (by omega)
          have w7 : IntKind.i64.wrap (u % 10) = u % 10 := IntWalk.i64_in _ (by omega)
          clear hu hv hval hcar
          go_wp2_with fail
          go_region
          go_wp2_with fail
          refine ⟨⟨n + 1, (os.set (n + 1) (v + u / 10)).set n (u % 10), by go_num, by omega, Lib.hid (by rw [List.length_set, List.length_set]; exact hlen.out), HS, HI, World.rowIs.drew (HR.out.congr fun m _ => ?_), ((hbw.setCell (p := ⟨w.heap.size + 1 + 1 + 1, n + 1, none⟩) (by rw [hz3]; exact Nat.le_refl _) _).setCell (p := ⟨w.heap.size + 1 + 1 + 1, n, none⟩) (by rw [hz3]; exact Nat.le_refl _) _).drew⟩, ?_⟩
          · unfold rowF
            rw [at_set _ n m _ (by rw [List.length_set, hlen.out]; omega), at_set os (n + 1) m _ (by rw [hlen.out]; omega)]
            by_cases e : m = n
            · rw [if_pos e, if_pos e]
            · rw [if_neg e, if_neg e]
              by_cases e2 : m = n + 1
              · rw [if_pos e2, if_pos e2]
              · rw [if_neg e2, if_neg e2]
          · simp [intOf]; omega
        · have hne : n = i + lb := by omega
          have HG' := Lib.hid (carried_good (B := 291600) (os := os) (n := n) (by rw [hlen.out, hne]) hcar.out (by
            rw [hval.out, hne, ten_add]
            have a1 := val_lt HG.out
            have a2 := val_lt KG.out
            rw [← HLA.out] at a1
            rw [← HLB.out] at a2
            have b1 := val_nonneg HG.out
            have b2 := val_nonneg KG.out
            have := ten_pos i
            have := ten_pos lb
            have c1 := Int.mul_le_mul_of_nonneg_left (show val ys ≤ ten lb by omega) b1
            have c2 := Int.mul_lt_mul_of_pos_right a1 (show 0 < ten lb by omega)
            omega))
          subst hne
          clear hcar
          go_wp2_with fail
          obtain ⟨sn, hsn⟩ : ∃ sn, sn = !(sx == sy) := ⟨_, rfl⟩
          have HA2 : Hid (numV sn (szV X * szV Y) = X * Y) := Lib.hid (by rw [hsn]; exact HA.out)
          rw [← hsn]
          clear hsn
          have hdig : DigA wr (some ⟨w.heap.size + 1 + 1 + 1, 0, none⟩) os := fun j hj => ⟨_, 0, rfl, by
            rw [Nat.zero_add]; exact hrow.cell (show j < i + lb + 1 by rw [← hlen.out]; exact hj)⟩
          have htr := trim_any sn (some ⟨w.heap.size + 1 + 1 + 1, 0, none⟩) (i + lb + 1) os wr (by rw [hlen.out]; omega) HG'.out (by rw [hlen.out]; exact Nat.le_refl _) (by omega) hdig
          rw [hlen.out] at htr
          refine htr.mono ?_
          clear htr
          rintro e wt ⟨k, hk, rfl, hg, hn, hv, hb⟩
          have s0 := cell_below T0 hb
          have s1 := cell_below T1 hb
          have s2 := frozen_below T2 T0 hb
          have s3 := frozen_below T3 T1 hb
          have zz := ((z.trans (hbw.mono z.size))).trans (hb.mono (Nat.le_trans z.size hbw.size))
          rw [hval.out, HV.out, KV.out, HA2.out] at hv ⊢
          obtain ⟨sr, hsr⟩ : ∃ sr, sr = decide (X * Y < 0) := ⟨_, rfl⟩
          rw [← hsr]
          have HSR := Lib.hid hsr
          have hG2 := Lib.hid hg; have hN2 := Lib.hid hn; have hV2 := Lib.hid hv; have hK2 := Lib.hid hk
          have hR2 := Lib.hid (rowIs_below hrow hb)
          clear hsr hg hn hv hk hdig hb hbw hrow P0 P1 Q0 Q1 T0 T1 T2 T3
          go_wp2_with fail
          have hcc := two_cells (x := .bool sr) (y := .slice (some ⟨w.heap.size + 1 + 1 + 1, 0, none⟩) k (i + lb + 1)) s0 s1
          refine bodyPost_ret (v := .agg #[.bool sr, .slice (some ⟨w.heap.size + 1 + 1 + 1, 0, none⟩) k (i + lb + 1)]) (by simp [results, Try.results21, go_sem, hcc.1, hcc.2]) rfl ?_
          have zb := (zz.setCell (p := ⟨w.heap.size + 1 + 1, 0, none⟩) (by simp; omega) (.bool sr)).setCell (p := ⟨w.heap.size + 1 + 1, 1, none⟩) (by simp; omega) (.slice (some ⟨w.heap.size + 1 + 1 + 1, 0, none⟩) k (i + lb + 1))
          have hrw := ((hR2.out.setOther (a := ⟨w.heap.size + 1 + 1, 0, none⟩) (by simp) (.bool sr)).setOther (a := ⟨w.heap.size + 1 + 1, 1, none⟩) (by simp) (.slice (some ⟨w.heap.size + 1 + 1 + 1, 0, none⟩) k (i + lb + 1)))
          refine ⟨_, rfl, ?_, zb⟩
          rw [HSR.out] at hrw ⊢
          exact bigV_take hK2.out (by rw [hlen.out]; exact Nat.le_refl _) (by omega) (fun j hj => ⟨_, 0, rfl, by rw [Nat.zero_add]; exact hrw.cell (show j < i + lb + 1 by rw [← hlen.out]; exact hj)⟩) hG2.out hN2.out hV2.out
end Go.Proofs.Ytfpelhacbmggeaa
