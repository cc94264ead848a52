/- Plain laws on the document's reading of the first sign of bytes. No program in sight. -/
import Derived.Test.YtghimladdioajaaScDecode
namespace Go.Proofs.Ytghimladdioajaa
open Go Go.RowKit
set_option linter.unusedSimpArgs false
/-- byte k, as a number; 0 beyond the end -/
def byteV (r : List UInt8) (k : Nat) : Int := bz (r.getD k 0)
/-- how many bytes a sign has that begins so; 0: none does -/
def manyB (c : Int) : Nat := if c < 128 then 1 else if 192 ≤ c ∧ c < 224 then 2 else if 224 ≤ c ∧ c < 240 then 3 else if 240 ≤ c ∧ c < 248 then 4 else 0
def baseB (c : Int) : Int := if c < 128 then c else if c < 224 then c - 192 else if c < 240 then c - 224 else c - 240
/-- the number, k bytes behind the first one read -/
def accB (r : List UInt8) : Nat → Int
  | 0 => baseB (byteV r 0)
  | k + 1 => accB r k * 64 + byteV r (k + 1) - 128
def contB (r : List UInt8) (j : Nat) : Prop := 128 ≤ byteV r j ∧ byteV r j ≤ 191
theorem acc0 (r : List UInt8) : accB r 0 = baseB (byteV r 0) := rfl
theorem acc1 (r : List UInt8) : accB r 1 = baseB (byteV r 0) * 64 + byteV r 1 - 128 := rfl
theorem acc2 (r : List UInt8) : accB r 2 = (baseB (byteV r 0) * 64 + byteV r 1 - 128) * 64 + byteV r 2 - 128 := rfl
theorem acc3 (r : List UInt8) : accB r 3 = ((baseB (byteV r 0) * 64 + byteV r 1 - 128) * 64 + byteV r 2 - 128) * 64 + byteV r 3 - 128 := rfl
theorem byteV_lt (r : List UInt8) (k : Nat) : 0 ≤ byteV r k ∧ byteV r k < 256 := bz_lt _
theorem byteV_pre {n : Int} {r : List UInt8} (h : enc n <+: r) (j : Nat) (hj : j < (enc n).length) : byteV r j = (Lib.encodeRuneZ n).getD j 0 := by
  obtain ⟨t, rfl⟩ := h
  unfold byteV
  rw [← enc_bz, List.getD_eq_getElem?_getD, List.getD_eq_getElem?_getD, List.getElem?_append_left hj, List.getElem?_map, List.getElem?_eq_getElem hj]
  rfl
theorem pre_facts {n : Int} {r : List UInt8} (hn : SignP n) (h : enc n <+: r) :
    (enc n).length ≤ r.length ∧ manyB (byteV r 0) = (enc n).length ∧ (∀ j, 1 ≤ j → j < (enc n).length → contB r j) ∧ accB r ((enc n).length - 1) = n := by
  have hl : (enc n).length ≤ r.length := h.length_le
  obtain ⟨k, hk⟩ := wide_of hn
  have hb := byteV_pre h
  rw [enc_len hk] at hb hl ⊢
  refine ⟨hl, ?_⟩
  cases hk with
  | one a b =>
    rw [Lib.encodeRuneZ_one a b] at hb
    have h0 := hb 0 (by omega)
    simp at h0
    exact ⟨by unfold manyB; rw [if_pos (by omega)], (fun j h1 h2 => by omega), by rw [Nat.sub_self, acc0]; unfold baseB; rw [if_pos (by omega), h0]⟩
  | two a b =>
    rw [Lib.encodeRuneZ_two a b] at hb
    have h0 := hb 0 (by omega)
    have h1 := hb 1 (by omega)
    simp at h0 h1
    refine ⟨by unfold manyB; rw [if_neg (by omega), if_pos (by omega)], fun j j1 j2 => ?_, ?_⟩
    · obtain rfl : j = 1 := by omega
      unfold contB; omega
    · simp only [Nat.reduceSub, acc0, acc1, acc2, acc3]
      unfold baseB; rw [if_neg (by omega), if_pos (by omega)]; omega
  | three a =>
    rw [Lib.encodeRuneZ_three a] at hb
    have h0 := hb 0 (by omega)
    have h1 := hb 1 (by omega)
    have h2 := hb 2 (by omega)
    simp at h0 h1 h2
    refine ⟨by unfold manyB; rw [if_neg (by omega), if_neg (by omega), if_pos (by omega)], fun j j1 j2 => ?_, ?_⟩
    · rcases (by omega : j = 1 ∨ j = 2) with rfl | rfl
      all_goals unfold contB; omega
    · simp only [Nat.reduceSub, acc0, acc1, acc2, acc3]
      unfold baseB; rw [if_neg (by omega), if_neg (by omega), if_pos (by omega)]; omega
  | four a b =>
    rw [Lib.encodeRuneZ_four a b] at hb
    have h0 := hb 0 (by omega)
    have h1 := hb 1 (by omega)
    have h2 := hb 2 (by omega)
    have h3 := hb 3 (by omega)
    simp at h0 h1 h2 h3
    refine ⟨by unfold manyB; rw [if_neg (by omega), if_neg (by omega), if_neg (by omega), if_pos (by omega)], fun j j1 j2 => ?_, ?_⟩
    · rcases (by omega : j = 1 ∨ j = 2 ∨ j = 3) with rfl | rfl | rfl
      all_goals unfold contB; omega
    · simp only [Nat.reduceSub, acc0, acc1, acc2, acc3]
      unfold baseB; rw [if_neg (by omega), if_neg (by omega), if_neg (by omega)]; omega
theorem no_many {r : List UInt8} (h : manyB (byteV r 0) = 0) : NoSign r := fun n hn hp => by
  have := pre_facts hn hp
  have := (enc_pos n).1
  omega
theorem no_short {r : List UInt8} (h : r.length < manyB (byteV r 0)) : NoSign r := fun n hn hp => by
  have := pre_facts hn hp
  omega
theorem no_cont {r : List UInt8} {j : Nat} (h1 : 1 ≤ j) (h2 : j < manyB (byteV r 0)) (h3 : ¬ contB r j) : NoSign r := fun n hn hp => by
  have := pre_facts hn hp
  exact h3 (this.2.2.1 j h1 (by omega))
theorem no_sign {r : List UInt8} {k : Nat} (hk : manyB (byteV r 0) = k) (h : ¬ SignP (accB r (k - 1))) : NoSign r := fun n hn hp => by
  obtain ⟨_, h2, _, h4⟩ := pre_facts hn hp
  rw [← h2, hk] at h4
  exact h (by rw [h4]; exact hn)
theorem no_len {r : List UInt8} {k : Nat} (hk : manyB (byteV r 0) = k) (h : (enc (accB r (k - 1))).length ≠ k) : NoSign r := fun n hn hp => by
  obtain ⟨_, h2, _, h4⟩ := pre_facts hn hp
  rw [← h2, hk] at h4
  rw [h4] at h
  omega
theorem yes_one {r : List UInt8} (hr : r ≠ []) (h : byteV r 0 < 128) : SignP (byteV r 0) ∧ enc (byteV r 0) <+: r ∧ (enc (byteV r 0)).length = 1 := by
  have h0 := byteV_lt r 0
  have hl : 1 ≤ r.length := by
    cases r with
    | nil => exact absurd rfl hr
    | cons => simp
  have e := Lib.encodeRuneZ_one (r := byteV r 0) h0.1 (by omega)
  refine ⟨.inl ⟨h0.1, by omega⟩, prefix_of (k := 1) (by rw [e]; rfl) hl fun j hj => ?_, enc_len (.one h0.1 (by omega))⟩
  obtain rfl : j = 0 := by omega
  rw [e]; rfl
theorem acc_part {r : List UInt8} {K k : Nat} (hk : manyB (byteV r 0) = K) (h1 : 2 ≤ K) (k1 : 1 ≤ k) (k2 : k ≤ K) (hc : ∀ j, 1 ≤ j → j < k → contB r j) : 0 ≤ accB r (k - 1) ∧ accB r (k - 1) < 2097152 := by
  have h0 := byteV_lt r 0
  have b0 : 0 ≤ accB r 0 ∧ accB r 0 < 32 ∧ (2 < K → accB r 0 < 16) ∧ (3 < K → accB r 0 < 8) := by
    rw [acc0]
    unfold manyB at hk
    unfold baseB
    split at hk
    · omega
    · rename_i n1
      split at hk
      · rw [if_neg n1, if_pos (by omega)]; omega
      · split at hk
        · rw [if_neg n1, if_neg (by omega), if_pos (by omega)]; omega
        · split at hk
          · rw [if_neg n1, if_neg (by omega), if_neg (by omega)]; omega
          · omega
  have hk4 : K ≤ 4 := by unfold manyB at hk; (repeat' split at hk) <;> omega
  rcases (by omega : k = 1 ∨ k = 2 ∨ k = 3 ∨ k = 4) with rfl | rfl | rfl | rfl
  · rw [Nat.sub_self]; omega
  · have c1 := hc 1 (by omega) (by omega)
    unfold contB at c1
    simp only [Nat.reduceSub, acc0, acc1] at b0 ⊢
    omega
  · have c1 := hc 1 (by omega) (by omega)
    have c2 := hc 2 (by omega) (by omega)
    unfold contB at c1 c2
    simp only [Nat.reduceSub, acc0, acc2] at b0 ⊢
    omega
  · have c1 := hc 1 (by omega) (by omega)
    have c2 := hc 2 (by omega) (by omega)
    have c3 := hc 3 (by omega) (by omega)
    unfold contB at c1 c2 c3
    simp only [Nat.reduceSub, acc0, acc3] at b0 ⊢
    omega
theorem yes_many {r : List UInt8} {k : Nat} (hk : manyB (byteV r 0) = k) (h2 : 2 ≤ k) (hl : k ≤ r.length) (hc : ∀ j, 1 ≤ j → j < k → contB r j) (hs : SignP (accB r (k - 1))) (he : (enc (accB r (k - 1))).length = k) :
    enc (accB r (k - 1)) <+: r := by
  have h0 := byteV_lt r 0
  obtain ⟨i, hi⟩ := wide_of hs
  have hik : i = k := by rw [← enc_len hi]; exact he
  subst hik
  have hz : (Lib.encodeRuneZ (accB r (i - 1))).length = i := by rw [← enc_bz, List.length_map]; exact he
  refine prefix_of hz hl fun j hj => ?_
  show byteV r j = _
  generalize hN : accB r (i - 1) = N at hi
  cases hi with
  | one a b => omega
  | two a b =>
    have c1 := hc 1 (by omega) (by omega)
    unfold contB at c1
    rw [Lib.encodeRuneZ_two a b]
    simp only [Nat.reduceSub, acc0, acc1, acc2, acc3] at hN
    unfold manyB at hk
    unfold baseB at hN
    rcases (by omega : j = 0 ∨ j = 1) with rfl | rfl
    all_goals simp
    all_goals (repeat' split at hk) <;> first | omega | ((repeat' split at hN) <;> omega)
  | three a =>
    have c1 := hc 1 (by omega) (by omega)
    have c2 := hc 2 (by omega) (by omega)
    unfold contB at c1 c2
    rw [Lib.encodeRuneZ_three a]
    simp only [Nat.reduceSub, acc0, acc1, acc2, acc3] at hN
    unfold manyB at hk
    unfold baseB at hN
    rcases (by omega : j = 0 ∨ j = 1 ∨ j = 2) with rfl | rfl | rfl
    all_goals simp
    all_goals (repeat' split at hk) <;> first | omega | ((repeat' split at hN) <;> omega)
  | four a b =>
    have c1 := hc 1 (by omega) (by omega)
    have c2 := hc 2 (by omega) (by omega)
    have c3 := hc 3 (by omega) (by omega)
    unfold contB at c1 c2 c3
    rw [Lib.encodeRuneZ_four a b]
    simp only [Nat.reduceSub, acc0, acc1, acc2, acc3] at hN
    unfold manyB at hk
    unfold baseB at hN
    rcases (by omega : j = 0 ∨ j = 1 ∨ j = 2 ∨ j = 3) with rfl | rfl | rfl | rfl
    all_goals simp
    all_goals (repeat' split at hk) <;> first | omega | ((repeat' split at hN) <;> omega)
end Go.Proofs.Ytghimladdioajaa
