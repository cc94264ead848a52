/- The law ValueParts answers true at every list and place: a sum, or a product, of many is that of what comes out of the first ones, and the others. No condition. -/
import Derived.Test.YtfpelhacbmggeaaTruth
import Derived.Test.YtfpelhacbmggeaaSum
import Derived.Test.YtfpelhacbmggeaaPartsPlain
import Derived.Test.YtfpelhacbmggeaaOpen
import Derived.Laws.AppendOwnNone
namespace Go.Proofs.Ytfpelhacbmggeaa
open Go.RowKit
theorem info64 : (Try.prog.info? 2).map (fun i => (i.zero, i.size, i.bytes)) = some (some (.int .i64 0), 1, 8) := by kernel_rfl
theorem drop_news (w w' : World) (b off k : Nat) (zs : List Int) (hc : ∀ j, j < zs.length → w.cell? ⟨b, off + j, none⟩ = some (.int .i64 (zs[j]?.getD 0))) (hb : Below w.heap.size w w') :
    ∀ j u, ((zs.drop k).map (Value.int .i64))[j]? = some u → w'.cell? ((⟨b, off + k, none⟩ : Addr).add j) = some u := by
  intro j u h
  rw [List.getElem?_map, List.getElem?_drop] at h
  obtain ⟨x, hx, rfl⟩ := Option.map_eq_some_iff.1 h
  have hl : k + j < zs.length := by
    rcases Nat.lt_or_ge (k + j) zs.length with h | h
    · exact h
    · rw [List.getElem?_eq_none h] at hx; cases hx
  have h1 := hc (k + j) hl
  rw [hx] at h1
  have e : (⟨b, off + k, none⟩ : Addr).add j = ⟨b, off + (k + j), none⟩ := by
    unfold Addr.add
    split
    · subst_vars; rfl
    · simp [Nat.add_assoc]
  rw [e]
  exact (hb.cell (block_lt_of_cell h1)).trans h1
theorem nil_news (w : World) (a : Addr) : ∀ j u, (([] : List Int).map (Value.int .i64))[j]? = some u → w.cell? (a.add j) = some u := by
  intro j u h; simp at h
set_option maxHeartbeats 1600000 in
theorem parts_yye (b off cap k : Nat) (zs : List Int) (at_ : Int) (w : World) (hlen : zs.length ≤ 20) (_hcap : zs.length ≤ cap) (hcm : cap ≤ 9223372036854775807) (a0 : 0 ≤ at_) (a1 : at_ ≤ 255)
    (hk : at_ % ((zs.length : Int) + 1) = (k : Int)) (hkl : k ≤ zs.length) (hkc : k < cap) (hz : ∀ j, j < zs.length → fits (zs[j]?.getD 0) = true)
    (hc : ∀ j, j < zs.length → w.cell? ⟨b, off + j, none⟩ = some (.int .i64 (zs[j]?.getD 0)))
    (a : Int) (hsa : foldV (· + ·) (zs.take k) 0 = some a) (R : Option Int) (hR : foldV (· + ·) (zs.drop k) a = R)
    (c : Int) (hsm : foldV (· * ·) (zs.take k) 1 = some c) (R' : Option Int) (hR' : foldV (· * ·) (zs.drop k) c = R') :
    Calls Try.prog 8 #[.slice (some ⟨b, off, none⟩) zs.length cap, .int .u8 at_] w fun e w' => e = .returned (.bool true) ∧ Below w.heap.size w w' := by
  have HA := Lib.hid (foldV_parts (· + ·) zs k 0)
  have HM := Lib.hid (foldV_parts (· * ·) zs k 1)
  have hA := HA.out; rw [hsa] at hA; simp only [Option.bind_some] at hA; rw [hR] at hA; have HA2 := Lib.hid hA; clear hA HA
  have hM := HM.out; rw [hsm] at hM; simp only [Option.bind_some] at hM; rw [hR'] at hM; have HM2 := Lib.hid hM; clear hM HM
  have hfa : fits a = true := foldV_fits _ _ _ _ (by decide) hsa
  have HFA := Lib.hid (fits_first zs k a hfa hz)
  have HR := Lib.hid ((fold_add_first a (zs.drop k) hfa).trans hR); clear hR hfa
  have hfc : fits c = true := foldV_fits _ _ _ _ (by decide) hsm
  have HFC := Lib.hid (fits_first zs k c hfc hz)
  have HR' := Lib.hid ((fold_mul_first c (zs.drop k) hfc).trans hR'); clear hR' hfc
  have HSA := Lib.hid hsa; have HSM := Lib.hid hsm
  have HFT := Lib.hid (fits_take zs k hkl hz)
  have HC := Lib.hid hc
  have HZ := Lib.hid hz
  clear hsa hsm hc hz
  have hkt : (zs.take k).length = k := by simp; omega
  have HT := Lib.hid hkt; clear hkt
  obtain ⟨i0, hi, hz0, hz1, hz2⟩ := info_parts info64
  go_enter Try.func8, Try.ntmps8
  go_wp2_with fail
  refine (awake_both _).mono ?_
  rintro e w1 ⟨rfl, _, hb1⟩
  have hcw : Hid (∀ j, j < zs.length → w1.cell? ⟨b, off + j, none⟩ = some (.int .i64 (zs[j]?.getD 0))) := Lib.hid fun j hj => (hb1.cell (block_lt_of_cell (HC.out j hj))).trans (HC.out j hj)
  have hct : Hid (∀ j, j < (zs.take k).length → w1.cell? ⟨b, off + j, none⟩ = some (.int .i64 ((zs.take k)[j]?.getD 0))) := Lib.hid fun j hj => by
    have hj' : j < k := by rw [HT.out] at hj; exact hj
    rw [List.getElem?_take_of_lt hj']
    exact hcw.out j (by omega)
  have hda := Lib.hid (Add_any b off cap (zs.take k) w1 (by rw [HT.out]; omega) HFT.out hct.out)
  rw [HT.out, HSA.out] at hda
  have hdm := Lib.hid (Mul_any b off cap (zs.take k) w1 (by rw [HT.out]; omega) HFT.out hct.out)
  rw [HT.out, HSM.out] at hdm
  go_wp2_with fail
  refine (Add_any b off cap zs _ (by omega) HZ.out hcw.out).mono ?_
  rintro e w' ⟨rfl, rfl⟩
  rw [HA2.out]
  go_wp2_with fail
  refine (Mul_any b off cap zs _ (by omega) HZ.out hcw.out).mono ?_
  rintro e w' ⟨rfl, rfl⟩
  rw [HM2.out]
  go_wp2_with fail
  refine hda.out.mono ?_
  rintro e w' ⟨rfl, rfl⟩
  rw [oN_some, oE_some]
  go_wp2_with fail
  refine hdm.out.mono ?_
  rintro e w' ⟨rfl, rfl⟩
  rw [oN_some, oE_some]
  clear hda hdm
  have hnw : Hid (∀ j u, ((zs.drop k).map (Value.int .i64))[j]? = some u → (w1.alloc (.cells #[.int .i64 a] 2)).cell? ((⟨b, off + k, none⟩ : Addr).add j) = some u) := Lib.hid (drop_news w _ b off k zs HC.out (hb1.alloc hb1.size _))
  go_wp2_with (at_builtin; refine wpList_append_own _ rfl (.tmp 84) (.tmp 87) 43 rfl w1.heap.size 2 i0 (.int .i64 0) 1 8 Try.underlying43 hi hz0 hz1 hz2 rfl (by decide) (.slice (some ⟨w1.heap.size, 0, none⟩) 1 1) 1 [.int .i64 a] rfl (World.ownsRow_lit _ #[.int .i64 a] 1 (by simp) (by decide) rfl) ⟨b, off + k, none⟩ (zs.length - k) (cap - k) ((zs.drop k).map (Value.int .i64)) rfl (by simp) hnw.out (ints_oneCell _ _) (by unfold maxLen; omega) (by omega) (by simp) ?_; intro v' w2 oa ga _)
  have ho : w2.ownsRow w1.heap.size 2 1 v' (a :: zs.drop k).length ((a :: zs.drop k).map (Value.int .i64)) := by
    have e : (a :: zs.drop k).length = 1 + (zs.length - k) := by simp; try omega
    rw [e]; exact oa
  have hb2 : Below w.heap.size w w2 := (hb1.alloc hb1.size _).grown ga (by have := hb1.size; simp; omega) (fun g hg => (Option.some.inj hg : _ = g) ▸ hb1.size)
  clear oa ga
  have HO := Lib.hid ho
  clear ho
  go_wp2_with fail
  refine (Add_own v' (a :: zs.drop k) _ _ _ (by simp <;> omega) HFA.out HO.out).mono ?_
  rintro e w' ⟨rfl, rfl⟩
  rw [HR.out]
  clear HO hnw
  have hnw : Hid (∀ j u, ((zs.drop k).map (Value.int .i64))[j]? = some u → (w2.alloc (.cells #[.int .i64 c] 2)).cell? ((⟨b, off + k, none⟩ : Addr).add j) = some u) := Lib.hid (drop_news w _ b off k zs HC.out (hb2.alloc hb2.size _))
  go_wp2_with (at_builtin; refine wpList_append_own _ rfl (.tmp 104) (.tmp 107) 43 rfl w2.heap.size 2 i0 (.int .i64 0) 1 8 Try.underlying43 hi hz0 hz1 hz2 rfl (by decide) (.slice (some ⟨w2.heap.size, 0, none⟩) 1 1) 1 [.int .i64 c] rfl (World.ownsRow_lit _ #[.int .i64 c] 1 (by simp) (by decide) rfl) ⟨b, off + k, none⟩ (zs.length - k) (cap - k) ((zs.drop k).map (Value.int .i64)) rfl (by simp) hnw.out (ints_oneCell _ _) (by unfold maxLen; omega) (by omega) (by simp) ?_; intro v' w3 oa ga _)
  have ho : w3.ownsRow w2.heap.size 2 1 v' (c :: zs.drop k).length ((c :: zs.drop k).map (Value.int .i64)) := by
    have e : (c :: zs.drop k).length = 1 + (zs.length - k) := by simp; try omega
    rw [e]; exact oa
  have hb3 : Below w.heap.size w w3 := (hb2.alloc hb2.size _).grown ga (by have := hb2.size; simp; omega) (fun g hg => (Option.some.inj hg : _ = g) ▸ hb2.size)
  clear oa ga
  have HO := Lib.hid ho
  clear ho
  go_wp2_with fail
  refine (Mul_own v' (c :: zs.drop k) _ _ _ (by simp <;> omega) HFC.out HO.out).mono ?_
  rintro e w' ⟨rfl, rfl⟩
  rw [HR'.out]
  clear HO hnw
  go_wp2_with fail
  go_ret
  exact ⟨rfl, hb3⟩
set_option maxHeartbeats 1600000 in
theorem parts_yne (b off cap k : Nat) (zs : List Int) (at_ : Int) (w : World) (hlen : zs.length ≤ 20) (_hcap : zs.length ≤ cap) (hcm : cap ≤ 9223372036854775807) (a0 : 0 ≤ at_) (a1 : at_ ≤ 255)
    (hk : at_ % ((zs.length : Int) + 1) = (k : Int)) (hkl : k ≤ zs.length) (hkc : k < cap) (hz : ∀ j, j < zs.length → fits (zs[j]?.getD 0) = true)
    (hc : ∀ j, j < zs.length → w.cell? ⟨b, off + j, none⟩ = some (.int .i64 (zs[j]?.getD 0)))
    (a : Int) (hsa : foldV (· + ·) (zs.take k) 0 = some a) (R : Option Int) (hR : foldV (· + ·) (zs.drop k) a = R)
    (hsm : foldV (· * ·) (zs.take k) 1 = none) :
    Calls Try.prog 8 #[.slice (some ⟨b, off, none⟩) zs.length cap, .int .u8 at_] w fun e w' => e = .returned (.bool true) ∧ Below w.heap.size w w' := by
  have HA := Lib.hid (foldV_parts (· + ·) zs k 0)
  have HM := Lib.hid (foldV_parts (· * ·) zs k 1)
  have hA := HA.out; rw [hsa] at hA; simp only [Option.bind_some] at hA; rw [hR] at hA; have HA2 := Lib.hid hA; clear hA HA
  have hM := HM.out; rw [hsm] at hM; simp only [Option.bind_none] at hM; have HM2 := Lib.hid hM; clear hM HM
  have hfa : fits a = true := foldV_fits _ _ _ _ (by decide) hsa
  have HFA := Lib.hid (fits_first zs k a hfa hz)
  have HR := Lib.hid ((fold_add_first a (zs.drop k) hfa).trans hR); clear hR hfa
  have HSA := Lib.hid hsa; have HSM := Lib.hid hsm
  have HFT := Lib.hid (fits_take zs k hkl hz)
  have HC := Lib.hid hc
  have HZ := Lib.hid hz
  clear hsa hsm hc hz
  have hkt : (zs.take k).length = k := by simp; omega
  have HT := Lib.hid hkt; clear hkt
  obtain ⟨i0, hi, hz0, hz1, hz2⟩ := info_parts info64
  go_enter Try.func8, Try.ntmps8
  go_wp2_with fail
  refine (awake_both _).mono ?_
  rintro e w1 ⟨rfl, _, hb1⟩
  have hcw : Hid (∀ j, j < zs.length → w1.cell? ⟨b, off + j, none⟩ = some (.int .i64 (zs[j]?.getD 0))) := Lib.hid fun j hj => (hb1.cell (block_lt_of_cell (HC.out j hj))).trans (HC.out j hj)
  have hct : Hid (∀ j, j < (zs.take k).length → w1.cell? ⟨b, off + j, none⟩ = some (.int .i64 ((zs.take k)[j]?.getD 0))) := Lib.hid fun j hj => by
    have hj' : j < k := by rw [HT.out] at hj; exact hj
    rw [List.getElem?_take_of_lt hj']
    exact hcw.out j (by omega)
  have hda := Lib.hid (Add_any b off cap (zs.take k) w1 (by rw [HT.out]; omega) HFT.out hct.out)
  rw [HT.out, HSA.out] at hda
  have hdm := Lib.hid (Mul_any b off cap (zs.take k) w1 (by rw [HT.out]; omega) HFT.out hct.out)
  rw [HT.out, HSM.out] at hdm
  go_wp2_with fail
  refine (Add_any b off cap zs _ (by omega) HZ.out hcw.out).mono ?_
  rintro e w' ⟨rfl, rfl⟩
  rw [HA2.out]
  go_wp2_with fail
  refine (Mul_any b off cap zs _ (by omega) HZ.out hcw.out).mono ?_
  rintro e w' ⟨rfl, rfl⟩
  rw [HM2.out]
  go_wp2_with fail
  refine hda.out.mono ?_
  rintro e w' ⟨rfl, rfl⟩
  rw [oN_some, oE_some]
  go_wp2_with fail
  refine hdm.out.mono ?_
  rintro e w' ⟨rfl, rfl⟩
  rw [show oN none = 0 from rfl, show oE none = 9 from rfl]
  clear hda hdm
  have hnw : Hid (∀ j u, ((zs.drop k).map (Value.int .i64))[j]? = some u → (w1.alloc (.cells #[.int .i64 a] 2)).cell? ((⟨b, off + k, none⟩ : Addr).add j) = some u) := Lib.hid (drop_news w _ b off k zs HC.out (hb1.alloc hb1.size _))
  go_wp2_with (at_builtin; refine wpList_append_own _ rfl (.tmp 84) (.tmp 87) 43 rfl w1.heap.size 2 i0 (.int .i64 0) 1 8 Try.underlying43 hi hz0 hz1 hz2 rfl (by decide) (.slice (some ⟨w1.heap.size, 0, none⟩) 1 1) 1 [.int .i64 a] rfl (World.ownsRow_lit _ #[.int .i64 a] 1 (by simp) (by decide) rfl) ⟨b, off + k, none⟩ (zs.length - k) (cap - k) ((zs.drop k).map (Value.int .i64)) rfl (by simp) hnw.out (ints_oneCell _ _) (by unfold maxLen; omega) (by omega) (by simp) ?_; intro v' w2 oa ga _)
  have ho : w2.ownsRow w1.heap.size 2 1 v' (a :: zs.drop k).length ((a :: zs.drop k).map (Value.int .i64)) := by
    have e : (a :: zs.drop k).length = 1 + (zs.length - k) := by simp; try omega
    rw [e]; exact oa
  have hb2 : Below w.heap.size w w2 := (hb1.alloc hb1.size _).grown ga (by have := hb1.size; simp; omega) (fun g hg => (Option.some.inj hg : _ = g) ▸ hb1.size)
  clear oa ga
  have HO := Lib.hid ho
  clear ho
  go_wp2_with fail
  refine (Add_own v' (a :: zs.drop k) _ _ _ (by simp <;> omega) HFA.out HO.out).mono ?_
  rintro e w' ⟨rfl, rfl⟩
  rw [HR.out]
  clear HO hnw
  go_wp2_with fail
  go_ret
  exact ⟨rfl, hb2⟩
set_option maxHeartbeats 1600000 in
theorem parts_nye (b off cap k : Nat) (zs : List Int) (at_ : Int) (w : World) (hlen : zs.length ≤ 20) (_hcap : zs.length ≤ cap) (hcm : cap ≤ 9223372036854775807) (a0 : 0 ≤ at_) (a1 : at_ ≤ 255)
    (hk : at_ % ((zs.length : Int) + 1) = (k : Int)) (hkl : k ≤ zs.length) (hkc : k < cap) (hz : ∀ j, j < zs.length → fits (zs[j]?.getD 0) = true)
    (hc : ∀ j, j < zs.length → w.cell? ⟨b, off + j, none⟩ = some (.int .i64 (zs[j]?.getD 0)))
    (hsa : foldV (· + ·) (zs.take k) 0 = none)
    (c : Int) (hsm : foldV (· * ·) (zs.take k) 1 = some c) (R' : Option Int) (hR' : foldV (· * ·) (zs.drop k) c = R') :
    Calls Try.prog 8 #[.slice (some ⟨b, off, none⟩) zs.length cap, .int .u8 at_] w fun e w' => e = .returned (.bool true) ∧ Below w.heap.size w w' := by
  have HA := Lib.hid (foldV_parts (· + ·) zs k 0)
  have HM := Lib.hid (foldV_parts (· * ·) zs k 1)
  have hA := HA.out; rw [hsa] at hA; simp only [Option.bind_none] at hA; have HA2 := Lib.hid hA; clear hA HA
  have hM := HM.out; rw [hsm] at hM; simp only [Option.bind_some] at hM; rw [hR'] at hM; have HM2 := Lib.hid hM; clear hM HM
  have hfc : fits c = true := foldV_fits _ _ _ _ (by decide) hsm
  have HFC := Lib.hid (fits_first zs k c hfc hz)
  have HR' := Lib.hid ((fold_mul_first c (zs.drop k) hfc).trans hR'); clear hR' hfc
  have HSA := Lib.hid hsa; have HSM := Lib.hid hsm
  have HFT := Lib.hid (fits_take zs k hkl hz)
  have HC := Lib.hid hc
  have HZ := Lib.hid hz
  clear hsa hsm hc hz
  have hkt : (zs.take k).length = k := by simp; omega
  have HT := Lib.hid hkt; clear hkt
  obtain ⟨i0, hi, hz0, hz1, hz2⟩ := info_parts info64
  go_enter Try.func8, Try.ntmps8
  go_wp2_with fail
  refine (awake_both _).mono ?_
  rintro e w1 ⟨rfl, _, hb1⟩
  have hcw : Hid (∀ j, j < zs.length → w1.cell? ⟨b, off + j, none⟩ = some (.int .i64 (zs[j]?.getD 0))) := Lib.hid fun j hj => (hb1.cell (block_lt_of_cell (HC.out j hj))).trans (HC.out j hj)
  have hct : Hid (∀ j, j < (zs.take k).length → w1.cell? ⟨b, off + j, none⟩ = some (.int .i64 ((zs.take k)[j]?.getD 0))) := Lib.hid fun j hj => by
    have hj' : j < k := by rw [HT.out] at hj; exact hj
    rw [List.getElem?_take_of_lt hj']
    exact hcw.out j (by omega)
  have hda := Lib.hid (Add_any b off cap (zs.take k) w1 (by rw [HT.out]; omega) HFT.out hct.out)
  rw [HT.out, HSA.out] at hda
  have hdm := Lib.hid (Mul_any b off cap (zs.take k) w1 (by rw [HT.out]; omega) HFT.out hct.out)
  rw [HT.out, HSM.out] at hdm
  go_wp2_with fail
  refine (Add_any b off cap zs _ (by omega) HZ.out hcw.out).mono ?_
  rintro e w' ⟨rfl, rfl⟩
  rw [HA2.out]
  go_wp2_with fail
  refine (Mul_any b off cap zs _ (by omega) HZ.out hcw.out).mono ?_
  rintro e w' ⟨rfl, rfl⟩
  rw [HM2.out]
  go_wp2_with fail
  refine hda.out.mono ?_
  rintro e w' ⟨rfl, rfl⟩
  rw [show oN none = 0 from rfl, show oE none = 9 from rfl]
  go_wp2_with fail
  refine hdm.out.mono ?_
  rintro e w' ⟨rfl, rfl⟩
  rw [oN_some, oE_some]
  clear hda hdm
  have hnw : Hid (∀ j u, ((zs.drop k).map (Value.int .i64))[j]? = some u → (w1.alloc (.cells #[.int .i64 c] 2)).cell? ((⟨b, off + k, none⟩ : Addr).add j) = some u) := Lib.hid (drop_news w _ b off k zs HC.out (hb1.alloc hb1.size _))
  go_wp2_with (at_builtin; refine wpList_append_own _ rfl (.tmp 104) (.tmp 107) 43 rfl w1.heap.size 2 i0 (.int .i64 0) 1 8 Try.underlying43 hi hz0 hz1 hz2 rfl (by decide) (.slice (some ⟨w1.heap.size, 0, none⟩) 1 1) 1 [.int .i64 c] rfl (World.ownsRow_lit _ #[.int .i64 c] 1 (by simp) (by decide) rfl) ⟨b, off + k, none⟩ (zs.length - k) (cap - k) ((zs.drop k).map (Value.int .i64)) rfl (by simp) hnw.out (ints_oneCell _ _) (by unfold maxLen; omega) (by omega) (by simp) ?_; intro v' w3 oa ga _)
  have ho : w3.ownsRow w1.heap.size 2 1 v' (c :: zs.drop k).length ((c :: zs.drop k).map (Value.int .i64)) := by
    have e : (c :: zs.drop k).length = 1 + (zs.length - k) := by simp; try omega
    rw [e]; exact oa
  have hb3 : Below w.heap.size w w3 := (hb1.alloc hb1.size _).grown ga (by have := hb1.size; simp; omega) (fun g hg => (Option.some.inj hg : _ = g) ▸ hb1.size)
  clear oa ga
  have HO := Lib.hid ho
  clear ho
  go_wp2_with fail
  refine (Mul_own v' (c :: zs.drop k) _ _ _ (by simp <;> omega) HFC.out HO.out).mono ?_
  rintro e w' ⟨rfl, rfl⟩
  rw [HR'.out]
  clear HO hnw
  go_wp2_with fail
  go_ret
  exact ⟨rfl, hb3⟩
set_option maxHeartbeats 1600000 in
theorem parts_nne (b off cap k : Nat) (zs : List Int) (at_ : Int) (w : World) (hlen : zs.length ≤ 20) (_hcap : zs.length ≤ cap) (hcm : cap ≤ 9223372036854775807) (a0 : 0 ≤ at_) (a1 : at_ ≤ 255)
    (hk : at_ % ((zs.length : Int) + 1) = (k : Int)) (hkl : k ≤ zs.length) (hkc : k < cap) (hz : ∀ j, j < zs.length → fits (zs[j]?.getD 0) = true)
    (hc : ∀ j, j < zs.length → w.cell? ⟨b, off + j, none⟩ = some (.int .i64 (zs[j]?.getD 0)))
    (hsa : foldV (· + ·) (zs.take k) 0 = none)
    (hsm : foldV (· * ·) (zs.take k) 1 = none) :
    Calls Try.prog 8 #[.slice (some ⟨b, off, none⟩) zs.length cap, .int .u8 at_] w fun e w' => e = .returned (.bool true) ∧ Below w.heap.size w w' := by
  have HA := Lib.hid (foldV_parts (· + ·) zs k 0)
  have HM := Lib.hid (foldV_parts (· * ·) zs k 1)
  have hA := HA.out; rw [hsa] at hA; simp only [Option.bind_none] at hA; have HA2 := Lib.hid hA; clear hA HA
  have hM := HM.out; rw [hsm] at hM; simp only [Option.bind_none] at hM; have HM2 := Lib.hid hM; clear hM HM
  have HSA := Lib.hid hsa; have HSM := Lib.hid hsm
  have HFT := Lib.hid (fits_take zs k hkl hz)
  have HC := Lib.hid hc
  have HZ := Lib.hid hz
  clear hsa hsm hc hz
  have hkt : (zs.take k).length = k := by simp; omega
  have HT := Lib.hid hkt; clear hkt
  go_enter Try.func8, Try.ntmps8
  go_wp2_with fail
  refine (awake_both _).mono ?_
  rintro e w1 ⟨rfl, _, hb1⟩
  have hcw : Hid (∀ j, j < zs.length → w1.cell? ⟨b, off + j, none⟩ = some (.int .i64 (zs[j]?.getD 0))) := Lib.hid fun j hj => (hb1.cell (block_lt_of_cell (HC.out j hj))).trans (HC.out j hj)
  have hct : Hid (∀ j, j < (zs.take k).length → w1.cell? ⟨b, off + j, none⟩ = some (.int .i64 ((zs.take k)[j]?.getD 0))) := Lib.hid fun j hj => by
    have hj' : j < k := by rw [HT.out] at hj; exact hj
    rw [List.getElem?_take_of_lt hj']
    exact hcw.out j (by omega)
  have hda := Lib.hid (Add_any b off cap (zs.take k) w1 (by rw [HT.out]; omega) HFT.out hct.out)
  rw [HT.out, HSA.out] at hda
  have hdm := Lib.hid (Mul_any b off cap (zs.take k) w1 (by rw [HT.out]; omega) HFT.out hct.out)
  rw [HT.out, HSM.out] at hdm
  go_wp2_with fail
  refine (Add_any b off cap zs _ (by omega) HZ.out hcw.out).mono ?_
  rintro e w' ⟨rfl, rfl⟩
  rw [HA2.out]
  go_wp2_with fail
  refine (Mul_any b off cap zs _ (by omega) HZ.out hcw.out).mono ?_
  rintro e w' ⟨rfl, rfl⟩
  rw [HM2.out]
  go_wp2_with fail
  refine hda.out.mono ?_
  rintro e w' ⟨rfl, rfl⟩
  rw [show oN none = 0 from rfl, show oE none = 9 from rfl]
  go_wp2_with fail
  refine hdm.out.mono ?_
  rintro e w' ⟨rfl, rfl⟩
  rw [show oN none = 0 from rfl, show oE none = 9 from rfl]
  clear hda hdm
  go_wp2_with fail
  go_ret
  exact ⟨rfl, hb1⟩
set_option maxHeartbeats 1600000 in
theorem parts_yyf (b off cap k : Nat) (zs : List Int) (at_ : Int) (w : World) (hlen : zs.length ≤ 20) (hcap : zs.length ≤ cap) (hcm : cap ≤ 9223372036854775807) (a0 : 0 ≤ at_) (a1 : at_ ≤ 255)
    (hk : at_ % ((zs.length : Int) + 1) = (k : Int)) (hkl : k ≤ zs.length) (hkc : k = cap) (hz : ∀ j, j < zs.length → fits (zs[j]?.getD 0) = true)
    (hc : ∀ j, j < zs.length → w.cell? ⟨b, off + j, none⟩ = some (.int .i64 (zs[j]?.getD 0)))
    (a : Int) (hsa : foldV (· + ·) (zs.take k) 0 = some a) (R : Option Int) (hR : foldV (· + ·) (zs.drop k) a = R)
    (c : Int) (hsm : foldV (· * ·) (zs.take k) 1 = some c) (R' : Option Int) (hR' : foldV (· * ·) (zs.drop k) c = R') :
    Calls Try.prog 8 #[.slice (some ⟨b, off, none⟩) zs.length cap, .int .u8 at_] w fun e w' => e = .returned (.bool true) ∧ Below w.heap.size w w' := by
  have HA := Lib.hid (foldV_parts (· + ·) zs k 0)
  have HM := Lib.hid (foldV_parts (· * ·) zs k 1)
  have hA := HA.out; rw [hsa] at hA; simp only [Option.bind_some] at hA; rw [hR] at hA; have HA2 := Lib.hid hA; clear hA HA
  have hM := HM.out; rw [hsm] at hM; simp only [Option.bind_some] at hM; rw [hR'] at hM; have HM2 := Lib.hid hM; clear hM HM
  have hfa : fits a = true := foldV_fits _ _ _ _ (by decide) hsa
  have HFA := Lib.hid (fits_first zs k a hfa hz)
  have HR := Lib.hid ((fold_add_first a (zs.drop k) hfa).trans hR); clear hR hfa
  have hfc : fits c = true := foldV_fits _ _ _ _ (by decide) hsm
  have HFC := Lib.hid (fits_first zs k c hfc hz)
  have HR' := Lib.hid ((fold_mul_first c (zs.drop k) hfc).trans hR'); clear hR' hfc
  have HSA := Lib.hid hsa; have HSM := Lib.hid hsm
  have HFT := Lib.hid (fits_take zs k hkl hz)
  have HC := Lib.hid hc
  have HZ := Lib.hid hz
  clear hsa hsm hc hz
  have hkt : (zs.take k).length = k := by simp; omega
  have HT := Lib.hid hkt; clear hkt
  obtain ⟨i0, hi, hz0, hz1, hz2⟩ := info_parts info64
  have hke : k = zs.length := by omega
  have hcz : cap = zs.length := by omega
  subst hcz; subst hke
  clear hkc hkl hcap
  go_enter Try.func8, Try.ntmps8
  go_wp2_with fail
  refine (awake_both _).mono ?_
  rintro e w1 ⟨rfl, _, hb1⟩
  have hcw : Hid (∀ j, j < zs.length → w1.cell? ⟨b, off + j, none⟩ = some (.int .i64 (zs[j]?.getD 0))) := Lib.hid fun j hj => (hb1.cell (block_lt_of_cell (HC.out j hj))).trans (HC.out j hj)
  have hct : Hid (∀ j, j < (zs.take zs.length).length → w1.cell? ⟨b, off + j, none⟩ = some (.int .i64 ((zs.take zs.length)[j]?.getD 0))) := Lib.hid fun j hj => by
    have hj' : j < zs.length := by rw [HT.out] at hj; exact hj
    rw [List.getElem?_take_of_lt hj']
    exact hcw.out j (by omega)
  have hda := Lib.hid (Add_any b off zs.length (zs.take zs.length) w1 (by rw [HT.out]; omega) HFT.out hct.out)
  rw [HT.out, HSA.out] at hda
  have hdm := Lib.hid (Mul_any b off zs.length (zs.take zs.length) w1 (by rw [HT.out]; omega) HFT.out hct.out)
  rw [HT.out, HSM.out] at hdm
  go_wp2_with fail
  refine (Add_any b off zs.length zs _ (by omega) HZ.out hcw.out).mono ?_
  rintro e w' ⟨rfl, rfl⟩
  rw [HA2.out]
  go_wp2_with fail
  refine (Mul_any b off zs.length zs _ (by omega) HZ.out hcw.out).mono ?_
  rintro e w' ⟨rfl, rfl⟩
  rw [HM2.out]
  go_wp2_with fail
  refine hda.out.mono ?_
  rintro e w' ⟨rfl, rfl⟩
  rw [oN_some, oE_some]
  go_wp2_with fail
  refine hdm.out.mono ?_
  rintro e w' ⟨rfl, rfl⟩
  rw [oN_some, oE_some]
  clear hda hdm
  have HFA2 : Hid (∀ j, j < [a].length → fits ([a][j]?.getD 0) = true) := Lib.hid (by have := HFA.out; simpa using this)
  have HRA2 : Hid (foldV (· + ·) [a] 0 = R) := Lib.hid (by have := HR.out; simpa using this)
  have HFC2 : Hid (∀ j, j < [c].length → fits ([c][j]?.getD 0) = true) := Lib.hid (by have := HFC.out; simpa using this)
  have HRC2 : Hid (foldV (· * ·) [c] 1 = R') := Lib.hid (by have := HR'.out; simpa using this)
  go_wp2_with (at_builtin; refine wpList_append_own _ rfl (.tmp 84) (.tmp 87) 43 rfl w1.heap.size 2 i0 (.int .i64 0) 1 8 Try.underlying43 hi hz0 hz1 hz2 rfl (by decide) (.slice (some ⟨w1.heap.size, 0, none⟩) 1 1) 1 [.int .i64 a] rfl (World.ownsRow_lit _ #[.int .i64 a] 1 (by simp) (by decide) rfl) ⟨b, off, none⟩ (0) (0) (([] : List Int).map (Value.int .i64)) rfl (by simp) (nil_news _ _) (ints_oneCell _ _) (by unfold maxLen; omega) (by omega) (by simp) ?_; intro v' w2 oa ga _)
  have ho : w2.ownsRow w1.heap.size 2 1 v' [a].length ([a].map (Value.int .i64)) := by
    have e : [a].length = 1 + (0) := by simp; try omega
    rw [e]; exact oa
  have hb2 : Below w.heap.size w w2 := (hb1.alloc hb1.size _).grown ga (by have := hb1.size; simp; omega) (fun g hg => (Option.some.inj hg : _ = g) ▸ hb1.size)
  clear oa ga
  have HO := Lib.hid ho
  clear ho
  go_wp2_with fail
  refine (Add_own v' [a] _ _ _ (by simp <;> omega) HFA2.out HO.out).mono ?_
  rintro e w' ⟨rfl, rfl⟩
  rw [HRA2.out]
  clear HO
  go_wp2_with (at_builtin; refine wpList_append_own _ rfl (.tmp 104) (.tmp 107) 43 rfl w2.heap.size 2 i0 (.int .i64 0) 1 8 Try.underlying43 hi hz0 hz1 hz2 rfl (by decide) (.slice (some ⟨w2.heap.size, 0, none⟩) 1 1) 1 [.int .i64 c] rfl (World.ownsRow_lit _ #[.int .i64 c] 1 (by simp) (by decide) rfl) ⟨b, off, none⟩ (0) (0) (([] : List Int).map (Value.int .i64)) rfl (by simp) (nil_news _ _) (ints_oneCell _ _) (by unfold maxLen; omega) (by omega) (by simp) ?_; intro v' w3 oa ga _)
  have ho : w3.ownsRow w2.heap.size 2 1 v' [c].length ([c].map (Value.int .i64)) := by
    have e : [c].length = 1 + (0) := by simp; try omega
    rw [e]; exact oa
  have hb3 : Below w.heap.size w w3 := (hb2.alloc hb2.size _).grown ga (by have := hb2.size; simp; omega) (fun g hg => (Option.some.inj hg : _ = g) ▸ hb2.size)
  clear oa ga
  have HO := Lib.hid ho
  clear ho
  go_wp2_with fail
  refine (Mul_own v' [c] _ _ _ (by simp <;> omega) HFC2.out HO.out).mono ?_
  rintro e w' ⟨rfl, rfl⟩
  rw [HRC2.out]
  clear HO
  go_wp2_with fail
  go_ret
  exact ⟨rfl, hb3⟩
set_option maxHeartbeats 1600000 in
theorem parts_ynf (b off cap k : Nat) (zs : List Int) (at_ : Int) (w : World) (hlen : zs.length ≤ 20) (hcap : zs.length ≤ cap) (hcm : cap ≤ 9223372036854775807) (a0 : 0 ≤ at_) (a1 : at_ ≤ 255)
    (hk : at_ % ((zs.length : Int) + 1) = (k : Int)) (hkl : k ≤ zs.length) (hkc : k = cap) (hz : ∀ j, j < zs.length → fits (zs[j]?.getD 0) = true)
    (hc : ∀ j, j < zs.length → w.cell? ⟨b, off + j, none⟩ = some (.int .i64 (zs[j]?.getD 0)))
    (a : Int) (hsa : foldV (· + ·) (zs.take k) 0 = some a) (R : Option Int) (hR : foldV (· + ·) (zs.drop k) a = R)
    (hsm : foldV (· * ·) (zs.take k) 1 = none) :
    Calls Try.prog 8 #[.slice (some ⟨b, off, none⟩) zs.length cap, .int .u8 at_] w fun e w' => e = .returned (.bool true) ∧ Below w.heap.size w w' := by
  have HA := Lib.hid (foldV_parts (· + ·) zs k 0)
  have HM := Lib.hid (foldV_parts (· * ·) zs k 1)
  have hA := HA.out; rw [hsa] at hA; simp only [Option.bind_some] at hA; rw [hR] at hA; have HA2 := Lib.hid hA; clear hA HA
  have hM := HM.out; rw [hsm] at hM; simp only [Option.bind_none] at hM; have HM2 := Lib.hid hM; clear hM HM
  have hfa : fits a = true := foldV_fits _ _ _ _ (by decide) hsa
  have HFA := Lib.hid (fits_first zs k a hfa hz)
  have HR := Lib.hid ((fold_add_first a (zs.drop k) hfa).trans hR); clear hR hfa
  have HSA := Lib.hid hsa; have HSM := Lib.hid hsm
  have HFT := Lib.hid (fits_take zs k hkl hz)
  have HC := Lib.hid hc
  have HZ := Lib.hid hz
  clear hsa hsm hc hz
  have hkt : (zs.take k).length = k := by simp; omega
  have HT := Lib.hid hkt; clear hkt
  obtain ⟨i0, hi, hz0, hz1, hz2⟩ := info_parts info64
  have hke : k = zs.length := by omega
  have hcz : cap = zs.length := by omega
  subst hcz; subst hke
  clear hkc hkl hcap
  go_enter Try.func8, Try.ntmps8
  go_wp2_with fail
  refine (awake_both _).mono ?_
  rintro e w1 ⟨rfl, _, hb1⟩
  have hcw : Hid (∀ j, j < zs.length → w1.cell? ⟨b, off + j, none⟩ = some (.int .i64 (zs[j]?.getD 0))) := Lib.hid fun j hj => (hb1.cell (block_lt_of_cell (HC.out j hj))).trans (HC.out j hj)
  have hct : Hid (∀ j, j < (zs.take zs.length).length → w1.cell? ⟨b, off + j, none⟩ = some (.int .i64 ((zs.take zs.length)[j]?.getD 0))) := Lib.hid fun j hj => by
    have hj' : j < zs.length := by rw [HT.out] at hj; exact hj
    rw [List.getElem?_take_of_lt hj']
    exact hcw.out j (by omega)
  have hda := Lib.hid (Add_any b off zs.length (zs.take zs.length) w1 (by rw [HT.out]; omega) HFT.out hct.out)
  rw [HT.out, HSA.out] at hda
  have hdm := Lib.hid (Mul_any b off zs.length (zs.take zs.length) w1 (by rw [HT.out]; omega) HFT.out hct.out)
  rw [HT.out, HSM.out] at hdm
  go_wp2_with fail
  refine (Add_any b off zs.length zs _ (by omega) HZ.out hcw.out).mono ?_
  rintro e w' ⟨rfl, rfl⟩
  rw [HA2.out]
  go_wp2_with fail
  refine (Mul_any b off zs.length zs _ (by omega) HZ.out hcw.out).mono ?_
  rintro e w' ⟨rfl, rfl⟩
  rw [HM2.out]
  go_wp2_with fail
  refine hda.out.mono ?_
  rintro e w' ⟨rfl, rfl⟩
  rw [oN_some, oE_some]
  go_wp2_with fail
  refine hdm.out.mono ?_
  rintro e w' ⟨rfl, rfl⟩
  rw [show oN none = 0 from rfl, show oE none = 9 from rfl]
  clear hda hdm
  have HFA2 : Hid (∀ j, j < [a].length → fits ([a][j]?.getD 0) = true) := Lib.hid (by have := HFA.out; simpa using this)
  have HRA2 : Hid (foldV (· + ·) [a] 0 = R) := Lib.hid (by have := HR.out; simpa using this)
  go_wp2_with (at_builtin; refine wpList_append_own _ rfl (.tmp 84) (.tmp 87) 43 rfl w1.heap.size 2 i0 (.int .i64 0) 1 8 Try.underlying43 hi hz0 hz1 hz2 rfl (by decide) (.slice (some ⟨w1.heap.size, 0, none⟩) 1 1) 1 [.int .i64 a] rfl (World.ownsRow_lit _ #[.int .i64 a] 1 (by simp) (by decide) rfl) ⟨b, off, none⟩ (0) (0) (([] : List Int).map (Value.int .i64)) rfl (by simp) (nil_news _ _) (ints_oneCell _ _) (by unfold maxLen; omega) (by omega) (by simp) ?_; intro v' w2 oa ga _)
  have ho : w2.ownsRow w1.heap.size 2 1 v' [a].length ([a].map (Value.int .i64)) := by
    have e : [a].length = 1 + (0) := by simp; try omega
    rw [e]; exact oa
  have hb2 : Below w.heap.size w w2 := (hb1.alloc hb1.size _).grown ga (by have := hb1.size; simp; omega) (fun g hg => (Option.some.inj hg : _ = g) ▸ hb1.size)
  clear oa ga
  have HO := Lib.hid ho
  clear ho
  go_wp2_with fail
  refine (Add_own v' [a] _ _ _ (by simp <;> omega) HFA2.out HO.out).mono ?_
  rintro e w' ⟨rfl, rfl⟩
  rw [HRA2.out]
  clear HO
  go_wp2_with fail
  go_ret
  exact ⟨rfl, hb2⟩
set_option maxHeartbeats 1600000 in
theorem parts_nyf (b off cap k : Nat) (zs : List Int) (at_ : Int) (w : World) (hlen : zs.length ≤ 20) (hcap : zs.length ≤ cap) (hcm : cap ≤ 9223372036854775807) (a0 : 0 ≤ at_) (a1 : at_ ≤ 255)
    (hk : at_ % ((zs.length : Int) + 1) = (k : Int)) (hkl : k ≤ zs.length) (hkc : k = cap) (hz : ∀ j, j < zs.length → fits (zs[j]?.getD 0) = true)
    (hc : ∀ j, j < zs.length → w.cell? ⟨b, off + j, none⟩ = some (.int .i64 (zs[j]?.getD 0)))
    (hsa : foldV (· + ·) (zs.take k) 0 = none)
    (c : Int) (hsm : foldV (· * ·) (zs.take k) 1 = some c) (R' : Option Int) (hR' : foldV (· * ·) (zs.drop k) c = R') :
    Calls Try.prog 8 #[.slice (some ⟨b, off, none⟩) zs.length cap, .int .u8 at_] w fun e w' => e = .returned (.bool true) ∧ Below w.heap.size w w' := by
  have HA := Lib.hid (foldV_parts (· + ·) zs k 0)
  have HM := Lib.hid (foldV_parts (· * ·) zs k 1)
  have hA := HA.out; rw [hsa] at hA; simp only [Option.bind_none] at hA; have HA2 := Lib.hid hA; clear hA HA
  have hM := HM.out; rw [hsm] at hM; simp only [Option.bind_some] at hM; rw [hR'] at hM; have HM2 := Lib.hid hM; clear hM HM
  have hfc : fits c = true := foldV_fits _ _ _ _ (by decide) hsm
  have HFC := Lib.hid (fits_first zs k c hfc hz)
  have HR' := Lib.hid ((fold_mul_first c (zs.drop k) hfc).trans hR'); clear hR' hfc
  have HSA := Lib.hid hsa; have HSM := Lib.hid hsm
  have HFT := Lib.hid (fits_take zs k hkl hz)
  have HC := Lib.hid hc
  have HZ := Lib.hid hz
  clear hsa hsm hc hz
  have hkt : (zs.take k).length = k := by simp; omega
  have HT := Lib.hid hkt; clear hkt
  obtain ⟨i0, hi, hz0, hz1, hz2⟩ := info_parts info64
  have hke : k = zs.length := by omega
  have hcz : cap = zs.length := by omega
  subst hcz; subst hke
  clear hkc hkl hcap
  go_enter Try.func8, Try.ntmps8
  go_wp2_with fail
  refine (awake_both _).mono ?_
  rintro e w1 ⟨rfl, _, hb1⟩
  have hcw : Hid (∀ j, j < zs.length → w1.cell? ⟨b, off + j, none⟩ = some (.int .i64 (zs[j]?.getD 0))) := Lib.hid fun j hj => (hb1.cell (block_lt_of_cell (HC.out j hj))).trans (HC.out j hj)
  have hct : Hid (∀ j, j < (zs.take zs.length).length → w1.cell? ⟨b, off + j, none⟩ = some (.int .i64 ((zs.take zs.length)[j]?.getD 0))) := Lib.hid fun j hj => by
    have hj' : j < zs.length := by rw [HT.out] at hj; exact hj
    rw [List.getElem?_take_of_lt hj']
    exact hcw.out j (by omega)
  have hda := Lib.hid (Add_any b off zs.length (zs.take zs.length) w1 (by rw [HT.out]; omega) HFT.out hct.out)
  rw [HT.out, HSA.out] at hda
  have hdm := Lib.hid (Mul_any b off zs.length (zs.take zs.length) w1 (by rw [HT.out]; omega) HFT.out hct.out)
  rw [HT.out, HSM.out] at hdm
  go_wp2_with fail
  refine (Add_any b off zs.length zs _ (by omega) HZ.out hcw.out).mono ?_
  rintro e w' ⟨rfl, rfl⟩
  rw [HA2.out]
  go_wp2_with fail
  refine (Mul_any b off zs.length zs _ (by omega) HZ.out hcw.out).mono ?_
  rintro e w' ⟨rfl, rfl⟩
  rw [HM2.out]
  go_wp2_with fail
  refine hda.out.mono ?_
  rintro e w' ⟨rfl, rfl⟩
  rw [show oN none = 0 from rfl, show oE none = 9 from rfl]
  go_wp2_with fail
  refine hdm.out.mono ?_
  rintro e w' ⟨rfl, rfl⟩
  rw [oN_some, oE_some]
  clear hda hdm
  have HFC2 : Hid (∀ j, j < [c].length → fits ([c][j]?.getD 0) = true) := Lib.hid (by have := HFC.out; simpa using this)
  have HRC2 : Hid (foldV (· * ·) [c] 1 = R') := Lib.hid (by have := HR'.out; simpa using this)
  go_wp2_with (at_builtin; refine wpList_append_own _ rfl (.tmp 104) (.tmp 107) 43 rfl w1.heap.size 2 i0 (.int .i64 0) 1 8 Try.underlying43 hi hz0 hz1 hz2 rfl (by decide) (.slice (some ⟨w1.heap.size, 0, none⟩) 1 1) 1 [.int .i64 c] rfl (World.ownsRow_lit _ #[.int .i64 c] 1 (by simp) (by decide) rfl) ⟨b, off, none⟩ (0) (0) (([] : List Int).map (Value.int .i64)) rfl (by simp) (nil_news _ _) (ints_oneCell _ _) (by unfold maxLen; omega) (by omega) (by simp) ?_; intro v' w3 oa ga _)
  have ho : w3.ownsRow w1.heap.size 2 1 v' [c].length ([c].map (Value.int .i64)) := by
    have e : [c].length = 1 + (0) := by simp; try omega
    rw [e]; exact oa
  have hb3 : Below w.heap.size w w3 := (hb1.alloc hb1.size _).grown ga (by have := hb1.size; simp; omega) (fun g hg => (Option.some.inj hg : _ = g) ▸ hb1.size)
  clear oa ga
  have HO := Lib.hid ho
  clear ho
  go_wp2_with fail
  refine (Mul_own v' [c] _ _ _ (by simp <;> omega) HFC2.out HO.out).mono ?_
  rintro e w' ⟨rfl, rfl⟩
  rw [HRC2.out]
  clear HO
  go_wp2_with fail
  go_ret
  exact ⟨rfl, hb3⟩
set_option maxHeartbeats 1600000 in
theorem parts_nnf (b off cap k : Nat) (zs : List Int) (at_ : Int) (w : World) (hlen : zs.length ≤ 20) (hcap : zs.length ≤ cap) (hcm : cap ≤ 9223372036854775807) (a0 : 0 ≤ at_) (a1 : at_ ≤ 255)
    (hk : at_ % ((zs.length : Int) + 1) = (k : Int)) (hkl : k ≤ zs.length) (hkc : k = cap) (hz : ∀ j, j < zs.length → fits (zs[j]?.getD 0) = true)
    (hc : ∀ j, j < zs.length → w.cell? ⟨b, off + j, none⟩ = some (.int .i64 (zs[j]?.getD 0)))
    (hsa : foldV (· + ·) (zs.take k) 0 = none)
    (hsm : foldV (· * ·) (zs.take k) 1 = none) :
    Calls Try.prog 8 #[.slice (some ⟨b, off, none⟩) zs.length cap, .int .u8 at_] w fun e w' => e = .returned (.bool true) ∧ Below w.heap.size w w' := by
  have HA := Lib.hid (foldV_parts (· + ·) zs k 0)
  have HM := Lib.hid (foldV_parts (· * ·) zs k 1)
  have hA := HA.out; rw [hsa] at hA; simp only [Option.bind_none] at hA; have HA2 := Lib.hid hA; clear hA HA
  have hM := HM.out; rw [hsm] at hM; simp only [Option.bind_none] at hM; have HM2 := Lib.hid hM; clear hM HM
  have HSA := Lib.hid hsa; have HSM := Lib.hid hsm
  have HFT := Lib.hid (fits_take zs k hkl hz)
  have HC := Lib.hid hc
  have HZ := Lib.hid hz
  clear hsa hsm hc hz
  have hkt : (zs.take k).length = k := by simp; omega
  have HT := Lib.hid hkt; clear hkt
  have hke : k = zs.length := by omega
  have hcz : cap = zs.length := by omega
  subst hcz; subst hke
  clear hkc hkl hcap
  go_enter Try.func8, Try.ntmps8
  go_wp2_with fail
  refine (awake_both _).mono ?_
  rintro e w1 ⟨rfl, _, hb1⟩
  have hcw : Hid (∀ j, j < zs.length → w1.cell? ⟨b, off + j, none⟩ = some (.int .i64 (zs[j]?.getD 0))) := Lib.hid fun j hj => (hb1.cell (block_lt_of_cell (HC.out j hj))).trans (HC.out j hj)
  have hct : Hid (∀ j, j < (zs.take zs.length).length → w1.cell? ⟨b, off + j, none⟩ = some (.int .i64 ((zs.take zs.length)[j]?.getD 0))) := Lib.hid fun j hj => by
    have hj' : j < zs.length := by rw [HT.out] at hj; exact hj
    rw [List.getElem?_take_of_lt hj']
    exact hcw.out j (by omega)
  have hda := Lib.hid (Add_any b off zs.length (zs.take zs.length) w1 (by rw [HT.out]; omega) HFT.out hct.out)
  rw [HT.out, HSA.out] at hda
  have hdm := Lib.hid (Mul_any b off zs.length (zs.take zs.length) w1 (by rw [HT.out]; omega) HFT.out hct.out)
  rw [HT.out, HSM.out] at hdm
  go_wp2_with fail
  refine (Add_any b off zs.length zs _ (by omega) HZ.out hcw.out).mono ?_
  rintro e w' ⟨rfl, rfl⟩
  rw [HA2.out]
  go_wp2_with fail
  refine (Mul_any b off zs.length zs _ (by omega) HZ.out hcw.out).mono ?_
  rintro e w' ⟨rfl, rfl⟩
  rw [HM2.out]
  go_wp2_with fail
  refine hda.out.mono ?_
  rintro e w' ⟨rfl, rfl⟩
  rw [show oN none = 0 from rfl, show oE none = 9 from rfl]
  go_wp2_with fail
  refine hdm.out.mono ?_
  rintro e w' ⟨rfl, rfl⟩
  rw [show oN none = 0 from rfl, show oE none = 9 from rfl]
  clear hda hdm
  go_wp2_with fail
  go_ret
  exact ⟨rfl, hb1⟩
theorem one_fit0 : ∀ j, j < [(0 : Int)].length → fits ([(0 : Int)][j]?.getD 0) = true := by intro j hj; match j, hj with | 0, _ => decide
theorem one_fit1 : ∀ j, j < [(1 : Int)].length → fits ([(1 : Int)][j]?.getD 0) = true := by intro j hj; match j, hj with | 0, _ => decide
theorem one_sum : foldV (· + ·) [(0 : Int)] 0 = some 0 := by decide
theorem one_product : foldV (· * ·) [(1 : Int)] 1 = some 1 := by decide
set_option maxHeartbeats 1600000 in
theorem parts_nil (at_ : Int) (w : World) (_a0 : 0 ≤ at_) (_a1 : at_ ≤ 255) :
    Calls Try.prog 8 #[.slice none 0 0, .int .u8 at_] w fun e w' => e = .returned (.bool true) ∧ Below w.heap.size w w' := by
  have hk : at_ % 1 = 0 := by omega
  obtain ⟨i0, hi, _, _, _⟩ := info_parts info64
  go_enter Try.func8, Try.ntmps8
  go_wp2_with fail
  refine (awake_both _).mono ?_
  rintro e w1 ⟨rfl, _, hb1⟩
  go_wp2_with fail
  refine (Add_nil _ _ _).mono ?_
  rintro e w' ⟨rfl, rfl⟩
  go_wp2_with fail
  refine (Mul_nil _ _ _).mono ?_
  rintro e w' ⟨rfl, rfl⟩
  go_wp2_with fail
  refine (Add_nil _ _ _).mono ?_
  rintro e w' ⟨rfl, rfl⟩
  go_wp2_with fail
  refine (Mul_nil _ _ _).mono ?_
  rintro e w' ⟨rfl, rfl⟩
  go_wp2_with (at_builtin; refine wpList_append_own_none rfl (.tmp 84) (.tmp 87) 43 rfl w1.heap.size 2 i0 1 Try.underlying43 hi (.slice (some ⟨w1.heap.size, 0, none⟩) 1 1) 1 [.int .i64 0] rfl (World.ownsRow_lit _ #[.int .i64 0] 1 (by simp) (by decide) rfl) rfl ?_)
  have hd := Lib.hid (Add_own (.slice (some ⟨w1.heap.size, 0, none⟩) 1 1) [0] (w1.alloc (.cells #[.int .i64 0] 2)) w1.heap.size 2 (by simp) one_fit0 (World.ownsRow_lit _ #[.int .i64 0] 1 (by simp) (by decide) rfl))
  go_wp2_with fail
  refine hd.out.mono ?_
  rintro e w' ⟨rfl, rfl⟩
  rw [one_sum]
  clear hd
  have ho2 : Hid (((w1.alloc (.cells #[.int .i64 0] 2)).alloc (.cells #[.int .i64 1] 2)).ownsRow 0 2 1 (.slice (some ⟨w1.heap.size + 1, 0, none⟩) 1 1) 1 [.int .i64 1]) := Lib.hid (by
    have := World.ownsRow_lit (base := 0) (e := 2) (size := 1) (w1.alloc (.cells #[.int .i64 0] 2)) #[.int .i64 1] 1 (Nat.zero_le _) (by decide) rfl
    rw [World.size_alloc] at this
    exact this)
  go_wp2_with (at_builtin; refine wpList_append_own_none rfl (.tmp 104) (.tmp 107) 43 rfl 0 2 i0 1 Try.underlying43 hi (.slice (some ⟨w1.heap.size + 1, 0, none⟩) 1 1) 1 [.int .i64 1] rfl ho2.out rfl ?_)
  have hd := Lib.hid (Mul_own (.slice (some ⟨w1.heap.size + 1, 0, none⟩) 1 1) [1] _ 0 2 (by simp) one_fit1 ho2.out)
  go_wp2_with fail
  refine hd.out.mono ?_
  rintro e w' ⟨rfl, rfl⟩
  rw [one_product]
  clear hd
  go_wp2_with fail
  go_ret
  exact ⟨rfl, (hb1.alloc hb1.size _).alloc (by have := hb1.size; simp; omega) _⟩
set_option maxHeartbeats 1600000 in
theorem parts_emp (x : Addr) (cap : Nat) (at_ : Int) (w : World) (_a0 : 0 ≤ at_) (_a1 : at_ ≤ 255) :
    Calls Try.prog 8 #[.slice (some x) 0 cap, .int .u8 at_] w fun e w' => e = .returned (.bool true) ∧ Below w.heap.size w w' := by
  have hk : at_ % 1 = 0 := by omega
  obtain ⟨i0, hi, hz0, hz1, hz2⟩ := info_parts info64
  go_enter Try.func8, Try.ntmps8
  go_wp2_with fail
  refine (awake_both _).mono ?_
  rintro e w1 ⟨rfl, _, hb1⟩
  go_wp2_with fail
  refine (Add_nil _ _ _).mono ?_
  rintro e w' ⟨rfl, rfl⟩
  go_wp2_with fail
  refine (Mul_nil _ _ _).mono ?_
  rintro e w' ⟨rfl, rfl⟩
  go_wp2_with fail
  refine (Add_nil _ _ _).mono ?_
  rintro e w' ⟨rfl, rfl⟩
  go_wp2_with fail
  refine (Mul_nil _ _ _).mono ?_
  rintro e w' ⟨rfl, rfl⟩
  go_wp2_with (at_builtin; refine wpList_append_own _ rfl (.tmp 84) (.tmp 87) 43 rfl w1.heap.size 2 i0 (.int .i64 0) 1 8 Try.underlying43 hi hz0 hz1 hz2 rfl (by decide) (.slice (some ⟨w1.heap.size, 0, none⟩) 1 1) 1 [.int .i64 0] rfl (World.ownsRow_lit _ #[.int .i64 0] 1 (by simp) (by decide) rfl) x 0 cap (([] : List Int).map (Value.int .i64)) rfl (by simp) (nil_news _ _) (ints_oneCell _ _) (by unfold maxLen; omega) (by omega) (by simp) ?_; intro v' w2 oa ga _)
  have hb2 : Below w.heap.size w w2 := (hb1.alloc hb1.size _).grown ga (by have := hb1.size; simp; omega) (fun g hg => (Option.some.inj hg : _ = g) ▸ hb1.size)
  have HO : Hid (w2.ownsRow w1.heap.size 2 1 v' [(0 : Int)].length ([(0 : Int)].map (Value.int .i64))) := Lib.hid oa
  clear oa ga
  go_wp2_with fail
  refine (Add_own v' [0] _ _ _ (by simp) one_fit0 HO.out).mono ?_
  rintro e w' ⟨rfl, rfl⟩
  rw [one_sum]
  clear HO
  go_wp2_with (at_builtin; refine wpList_append_own _ rfl (.tmp 104) (.tmp 107) 43 rfl w2.heap.size 2 i0 (.int .i64 0) 1 8 Try.underlying43 hi hz0 hz1 hz2 rfl (by decide) (.slice (some ⟨w2.heap.size, 0, none⟩) 1 1) 1 [.int .i64 1] rfl (World.ownsRow_lit _ #[.int .i64 1] 1 (by simp) (by decide) rfl) x 0 cap (([] : List Int).map (Value.int .i64)) rfl (by simp) (nil_news _ _) (ints_oneCell _ _) (by unfold maxLen; omega) (by omega) (by simp) ?_; intro v' w3 oa ga _)
  have hb3 : Below w.heap.size w w3 := (hb2.alloc hb2.size _).grown ga (by have := hb2.size; simp; omega) (fun g hg => (Option.some.inj hg : _ = g) ▸ hb2.size)
  have HO : Hid (w3.ownsRow w2.heap.size 2 1 v' [(1 : Int)].length ([(1 : Int)].map (Value.int .i64))) := Lib.hid oa
  clear oa ga
  go_wp2_with fail
  refine (Mul_own v' [1] _ _ _ (by simp) one_fit1 HO.out).mono ?_
  rintro e w' ⟨rfl, rfl⟩
  rw [one_product]
  clear HO
  go_wp2_with fail
  go_ret
  exact ⟨rfl, hb3⟩
theorem parts_long (a : Option Addr) (len cap : Nat) (at_ : Int) (w : World) (hlen : 20 < len) (hl2 : len ≤ 9223372036854775807) :
    Calls Try.prog 8 #[.slice a len cap, .int .u8 at_] w fun e w' => e = .returned (.bool true) ∧ Below w.heap.size w w' := by
  go_enter Try.func8, Try.ntmps8
  go_wp2_with fail
  refine (awake_both _).mono ?_
  rintro e w1 ⟨rfl, _, hb⟩
  go_wp2_with fail
  refine (awake_both _).mono ?_
  rintro e w2 ⟨rfl, _, hb2⟩
  go_wp2_with fail
  go_ret
  exact ⟨rfl, hb.trans (hb2.mono hb.size)⟩
theorem parts_walk (a : Option Addr) (len cap : Nat) (z : List Int) (at_ : Int) (w : World) (h : RowAt .i64 w a len cap z) (a0 : 0 ≤ at_) (a1 : at_ ≤ 255) :
    Calls Try.prog 8 #[.slice a len cap, .int .u8 at_] w fun e w' => e = .returned (.bool true) ∧ Below w.heap.size w w' := by
  rcases h with ⟨rfl, rfl, rfl, rfl⟩ | ⟨x, rfl, h1, h2, h3, h4, h5⟩
  · exact parts_nil at_ w a0 a1
  · unfold maxLen at h2
    by_cases hl : len ≤ 20
    · by_cases h0 : len = 0
      · subst h0
        exact parts_emp _ _ at_ w a0 a1
      · obtain ⟨b, off, rfl, hc⟩ := ints_at h4 (by omega)
        have e : len = (z.take len).length := by simp; omega
        obtain ⟨zs, hzs⟩ : ∃ zs, zs = z.take len := ⟨_, rfl⟩
        rw [← hzs] at e
        have hz : ∀ j, j < zs.length → fits (zs[j]?.getD 0) = true := by
          intro j hj
          have hm : zs[j]?.getD 0 ∈ z := by
            rw [List.getElem?_eq_getElem hj]
            exact List.mem_of_mem_take (by rw [← hzs]; exact List.getElem_mem hj)
          exact (fits_iff _).2 (bounds_i64 (h5 _ hm))
        have hcz : ∀ j, j < zs.length → w.cell? ⟨b, off + j, none⟩ = some (.int .i64 (zs[j]?.getD 0)) := by
          intro j hj
          rw [hc j (by omega), hzs, List.getElem?_take_of_lt (by omega)]
          simp
        subst e
        obtain ⟨k, hk⟩ : ∃ k : Nat, at_ % ((zs.length : Int) + 1) = (k : Int) := ⟨(at_ % ((zs.length : Int) + 1)).toNat, by have := Int.emod_nonneg at_ (show (zs.length : Int) + 1 ≠ 0 by omega); omega⟩
        have hkl : k ≤ zs.length := by have := Int.emod_lt_of_pos at_ (show 0 < (zs.length : Int) + 1 by omega); omega
        cases hsa : foldV (· + ·) (zs.take k) 0 <;> cases hsm : foldV (· * ·) (zs.take k) 1 <;> rcases Nat.lt_or_ge k cap with hkc | hkc
        · exact parts_nne b off cap k zs at_ w (by omega) h1 (by omega) a0 a1 hk hkl hkc hz hcz hsa hsm
        · exact parts_nnf b off cap k zs at_ w (by omega) h1 (by omega) a0 a1 hk hkl (by omega) hz hcz hsa hsm
        · exact parts_nye b off cap k zs at_ w (by omega) h1 (by omega) a0 a1 hk hkl hkc hz hcz hsa _ hsm _ rfl
        · exact parts_nyf b off cap k zs at_ w (by omega) h1 (by omega) a0 a1 hk hkl (by omega) hz hcz hsa _ hsm _ rfl
        · exact parts_yne b off cap k zs at_ w (by omega) h1 (by omega) a0 a1 hk hkl hkc hz hcz _ hsa _ rfl hsm
        · exact parts_ynf b off cap k zs at_ w (by omega) h1 (by omega) a0 a1 hk hkl (by omega) hz hcz _ hsa _ rfl hsm
        · exact parts_yye b off cap k zs at_ w (by omega) h1 (by omega) a0 a1 hk hkl hkc hz hcz _ hsa _ rfl _ hsm _ rfl
        · exact parts_yyf b off cap k zs at_ w (by omega) h1 (by omega) a0 a1 hk hkl (by omega) hz hcz _ hsa _ rfl _ hsm _ rfl
    · exact parts_long _ len cap at_ w (by omega) (by omega)
end Go.Proofs.Ytfpelhacbmggeaa
