/- Plain laws: how Go's own reading of a string (rune by rune) and the document's (sign by sign) agree. No program in sight. -/
import Derived.Test.YtghimladdioajaaScPlain
namespace Go.Proofs.Ytghimladdioajaa
open Go Go.RowKit
theorem get_at (s : ByteArray) (i k : Nat) : (s.get! (i + k)).toNat = ((s.data.toList.drop i).getD k 0).toNat := by
  rw [List.getD_eq_getElem?_getD, List.getElem?_drop]
  by_cases h : i + k < s.size
  · have e : s.get! (i + k) = s[i + k]'h := by
      show s.get! (i + k) = _
      simp [ByteArray.get!, getElem!_pos, h]
      rfl
    rw [e]
    have : s.data.toList[i + k]? = some (s[i + k]'h) := by
      rw [List.getElem?_eq_getElem (by simpa using h)]; rfl
    rw [this]; rfl
  · have : s.data.toList[i + k]? = none := List.getElem?_eq_none (by simpa using h)
    rw [this]
    have hn : ¬ (i + k < s.data.size) := h
    show (s.data[i + k]!).toNat = _
    rw [getElem!_neg s.data (i + k) hn]
    rfl
/-- the reading of what stands from a place on -/
def decL (r : List UInt8) : Nat × Nat :=
  let at' (k : Nat) : Nat := (r.getD k 0).toNat
  let cont (k : Nat) : Bool := k < r.length && at' k / 64 == 2
  let b0 := at' 0
  if b0 < 0x80 then (b0, 1)
  else if b0 / 32 == 6 && cont 1 then
    let c := (b0 % 32) * 64 + at' 1 % 64
    if c ≥ 0x80 then (c, 2) else (65533, 1)
  else if b0 / 16 == 14 && cont 1 && cont 2 then
    let c := (b0 % 16) * 4096 + (at' 1 % 64) * 64 + at' 2 % 64
    if c ≥ 0x800 && Utf8.valid c then (c, 3) else (65533, 1)
  else if b0 / 8 == 30 && cont 1 && cont 2 && cont 3 then
    let c := (b0 % 8) * 262144 + (at' 1 % 64) * 4096 + (at' 2 % 64) * 64 + at' 3 % 64
    if c ≥ 0x10000 && Utf8.valid c then (c, 4) else (65533, 1)
  else (65533, 1)
theorem decode_eq (s : ByteArray) (i : Nat) : Utf8.decode s i = decL (s.data.toList.drop i) := by
  unfold Utf8.decode decL
  have hc : ∀ k, (decide (i + k < s.size)) = decide (k < (s.data.toList.drop i).length) := by
    intro k
    have e : (s.data.toList.drop i).length = s.size - i := by rw [List.length_drop]; rfl
    rw [e, decide_eq_decide]
    omega
  simp only [get_at, hc, Utf8.runeError]
theorem bz_of_nat {b : UInt8} {x : Int} (h : bz b = x) : (b.toNat : Int) = x := h
/-- what a sign's bytes read as -/
theorem decL_enc {n : Int} (hn : SignP n) (y : List UInt8) : decL (enc n ++ y) = (n.toNat, (enc n).length) := by
  obtain ⟨k, hk⟩ := wide_of hn
  rw [enc_len hk]
  have hb := enc_bz n
  have hl := enc_len hk
  have hv : Utf8.valid n = true := by unfold SignP at hn; unfold Utf8.valid; simp; omega
  cases hk with
  | one a b =>
    rw [Lib.encodeRuneZ_one a b] at hb
    match h : enc n, hl, hb with
    | [b0], _, hb =>
      simp [bz] at hb
      unfold decL
      simp only [List.cons_append, List.nil_append, List.getD_cons_zero]
      rw [if_pos (by omega)]
      congr 1; omega
  | two a b =>
    rw [Lib.encodeRuneZ_two a b] at hb
    match h : enc n, hl, hb with
    | [b0, b1], _, hb =>
      simp [bz] at hb
      obtain ⟨h0, h1⟩ := hb
      unfold decL
      simp only [List.cons_append, List.nil_append, List.getD_cons_zero, List.getD_cons_succ, List.length_cons]
      have c1 : (decide (1 < y.length + 1 + 1) && b1.toNat / 64 == 2) = true := by simp; omega
      rw [if_neg (by omega), if_pos (by rw [c1]; simp; omega), if_pos (by omega)]
      congr 1; omega
  | three a =>
    rw [Lib.encodeRuneZ_three a] at hb
    match h : enc n, hl, hb with
    | [b0, b1, b2], _, hb =>
      simp [bz] at hb
      obtain ⟨h0, h1, h2⟩ := hb
      unfold decL
      simp only [List.cons_append, List.nil_append, List.getD_cons_zero, List.getD_cons_succ, List.length_cons]
      have c1 : (decide (1 < y.length + 1 + 1 + 1) && b1.toNat / 64 == 2) = true := by simp; omega
      have c2 : (decide (2 < y.length + 1 + 1 + 1) && b2.toNat / 64 == 2) = true := by simp; omega
      have e : b0.toNat % 16 * 4096 + b1.toNat % 64 * 64 + b2.toNat % 64 = n.toNat := by omega
      have en : ((n.toNat : Nat) : Int) = n := by omega
      rw [if_neg (by omega), if_neg (by simp; omega), if_pos (by rw [c1, c2]; simp; omega), e, if_pos (by rw [en, hv]; simp; omega)]
  | four a b =>
    rw [Lib.encodeRuneZ_four a b] at hb
    match h : enc n, hl, hb with
    | [b0, b1, b2, b3], _, hb =>
      simp [bz] at hb
      obtain ⟨h0, h1, h2, h3⟩ := hb
      unfold decL
      simp only [List.cons_append, List.nil_append, List.getD_cons_zero, List.getD_cons_succ, List.length_cons]
      have c1 : (decide (1 < y.length + 1 + 1 + 1 + 1) && b1.toNat / 64 == 2) = true := by simp; omega
      have c2 : (decide (2 < y.length + 1 + 1 + 1 + 1) && b2.toNat / 64 == 2) = true := by simp; omega
      have c3 : (decide (3 < y.length + 1 + 1 + 1 + 1) && b3.toNat / 64 == 2) = true := by simp; omega
      have e : b0.toNat % 8 * 262144 + b1.toNat % 64 * 4096 + b2.toNat % 64 * 64 + b3.toNat % 64 = n.toNat := by omega
      have en : ((n.toNat : Nat) : Int) = n := by omega
      rw [if_neg (by omega), if_neg (by simp; omega), if_neg (by simp; omega), if_pos (by rw [c1, c2, c3]; simp; omega), e, if_pos (by rw [en, hv]; simp; omega)]
/-- a prefix, byte by byte -/
theorem prefix_of {n : Int} {r : List UInt8} {k : Nat} (hk : (Lib.encodeRuneZ n).length = k) (hl : k ≤ r.length) (h : ∀ j, j < k → bz (r.getD j 0) = (Lib.encodeRuneZ n).getD j 0) : enc n <+: r := by
  refine ⟨r.drop k, ?_⟩
  have e : enc n = r.take k := by
    refine map_bz_inj ?_
    rw [enc_bz]
    refine List.ext_getElem (by rw [List.length_map, List.length_take]; omega) fun j h1 h2 => ?_
    have hj : j < k := by omega
    have := h j hj
    rw [List.getD_eq_getElem?_getD, List.getElem?_eq_getElem (by omega), List.getD_eq_getElem?_getD, List.getElem?_eq_getElem h1] at this
    simp only [Option.getD_some] at this
    rw [← this, List.getElem_map, List.getElem_take]
  rw [e, List.take_append_drop]
/-- where no sign stands, one byte is taken for one that is none -/
theorem decL_none {r : List UInt8} (hr : r ≠ []) (h : NoSign r) : decL r = (65533, 1) := by
  have h0 := bz_lt (r.getD 0 0)
  have h1 := bz_lt (r.getD 1 0)
  have h2 := bz_lt (r.getD 2 0)
  have h3 := bz_lt (r.getD 3 0)
  have hl : 1 ≤ r.length := by
    cases r with
    | nil => exact absurd rfl hr
    | cons => simp
  have fin : ∀ n k, SignP n → (Lib.encodeRuneZ n).length = k → k ≤ r.length → (∀ j, j < k → bz (r.getD j 0) = (Lib.encodeRuneZ n).getD j 0) → False := fun n k a b c d => h n a (prefix_of b c d)
  have z0 : bz (r.getD 0 0) = ((r.getD 0 0).toNat : Int) := rfl
  have z1 : bz (r.getD 1 0) = ((r.getD 1 0).toNat : Int) := rfl
  have z2 : bz (r.getD 2 0) = ((r.getD 2 0).toNat : Int) := rfl
  have z3 : bz (r.getD 3 0) = ((r.getD 3 0).toNat : Int) := rfl
  generalize hx0 : (r.getD 0 0).toNat = x0 at *
  generalize hx1 : (r.getD 1 0).toNat = x1 at *
  generalize hx2 : (r.getD 2 0).toNat = x2 at *
  generalize hx3 : (r.getD 3 0).toNat = x3 at *
  unfold decL
  simp only [hx0, hx1, hx2, hx3]
  by_cases c0 : x0 < 128
  · exfalso
    have e := Lib.encodeRuneZ_one (r := (x0 : Int)) (by omega) (by omega)
    refine fin x0 1 (.inl ⟨by omega, by omega⟩) (by rw [e]; rfl) hl fun j hj => ?_
    obtain rfl : j = 0 := by omega
    rw [e, z0]; rfl
  rw [if_neg c0]
  by_cases c1 : (x0 / 32 == 6 && (decide (1 < r.length) && x1 / 64 == 2)) = true
  · rw [if_pos c1]
    simp at c1
    by_cases d : x0 % 32 * 64 + x1 % 64 ≥ 128
    · exfalso
      have e := Lib.encodeRuneZ_two (r := ((x0 % 32 * 64 + x1 % 64 : Nat) : Int)) (by omega) (by omega)
      refine fin ((x0 % 32 * 64 + x1 % 64 : Nat) : Int) 2 (.inl ⟨by omega, by omega⟩) (by rw [e]; rfl) (by omega) fun j hj => ?_
      rw [e]
      rcases (by omega : j = 0 ∨ j = 1) with rfl | rfl
      · rw [z0]; simp; omega
      · rw [z1]; simp; omega
    · rw [if_neg d]
  rw [if_neg c1]
  by_cases c2 : (x0 / 16 == 14 && (decide (1 < r.length) && x1 / 64 == 2) && (decide (2 < r.length) && x2 / 64 == 2)) = true
  · rw [if_pos c2]
    simp at c2
    by_cases d : (decide (x0 % 16 * 4096 + x1 % 64 * 64 + x2 % 64 ≥ 2048) && Utf8.valid ((x0 % 16 * 4096 + x1 % 64 * 64 + x2 % 64 : Nat) : Int)) = true
    · exfalso
      unfold Utf8.valid at d
      simp at d
      have e := Lib.encodeRuneZ_three (r := ((x0 % 16 * 4096 + x1 % 64 * 64 + x2 % 64 : Nat) : Int)) (by omega)
      refine fin ((x0 % 16 * 4096 + x1 % 64 * 64 + x2 % 64 : Nat) : Int) 3 (by unfold SignP; omega) (by rw [e]; rfl) (by omega) fun j hj => ?_
      rw [e]
      rcases (by omega : j = 0 ∨ j = 1 ∨ j = 2) with rfl | rfl | rfl
      · rw [z0]; simp; omega
      · rw [z1]; simp; omega
      · rw [z2]; simp; omega
    · rw [if_neg d]
  rw [if_neg c2]
  by_cases c3 : (x0 / 8 == 30 && (decide (1 < r.length) && x1 / 64 == 2) && (decide (2 < r.length) && x2 / 64 == 2) && (decide (3 < r.length) && x3 / 64 == 2)) = true
  · rw [if_pos c3]
    simp at c3
    by_cases d : (decide (x0 % 8 * 262144 + x1 % 64 * 4096 + x2 % 64 * 64 + x3 % 64 ≥ 65536) && Utf8.valid ((x0 % 8 * 262144 + x1 % 64 * 4096 + x2 % 64 * 64 + x3 % 64 : Nat) : Int)) = true
    · exfalso
      unfold Utf8.valid at d
      simp at d
      have e := Lib.encodeRuneZ_four (r := ((x0 % 8 * 262144 + x1 % 64 * 4096 + x2 % 64 * 64 + x3 % 64 : Nat) : Int)) (by omega) (by omega)
      refine fin ((x0 % 8 * 262144 + x1 % 64 * 4096 + x2 % 64 * 64 + x3 % 64 : Nat) : Int) 4 (by unfold SignP; omega) (by rw [e]; rfl) (by omega) fun j hj => ?_
      rw [e]
      rcases (by omega : j = 0 ∨ j = 1 ∨ j = 2 ∨ j = 3) with rfl | rfl | rfl | rfl
      · rw [z0]; simp; omega
      · rw [z1]; simp; omega
      · rw [z2]; simp; omega
      · rw [z3]; simp; omega
    · rw [if_neg d]
  rw [if_neg c3]
end Go.Proofs.Ytghimladdioajaa
