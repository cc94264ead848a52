/- Texts of this seat put together: ScPlain ScDecode ScFirst ScSigns ScRead. -/
import Derived.WalkKit
import Derived.Lib.RuneBytes
import Derived.Laws.RangeAny
import Derived.Test.YtbchkhjkajagfaaDoorRows
import Derived.Test.YtbchkhjkajagfaaDoorPkA
import Derived.ProofKit
import Derived.OpenShut
import Derived.Lib.Hide
import Derived.IntWalk
import Derived.Maps.AppendAt
import Derived.Laws.Rows
import Derived.Deep.LoopGhost
import Derived.Lib.Strings
import Derived.WalkSpells
namespace Go.Proofs.YtbchkhjkajagfaaDoor
open Go Go.RowKit
/-- a sign's number -/
def SignP (n : Int) : Prop := (0 ≤ n ∧ n < 55296) ∨ (57343 < n ∧ n ≤ 1114111)
instance (n : Int) : Decidable (SignP n) := inferInstanceAs (Decidable (_ ∨ _))
def enc (n : Int) : List UInt8 := Lib.encodeRune n
def bz (b : UInt8) : Int := b.toNat
theorem bz_lt (b : UInt8) : 0 ≤ bz b ∧ bz b < 256 := ⟨by unfold bz; omega, by have := b.toNat_lt; unfold bz; omega⟩
theorem bz_inj {a b : UInt8} (h : bz a = bz b) : a = b := UInt8.toNat_inj.1 (by unfold bz at h; omega)
theorem enc_bz (n : Int) : (enc n).map bz = Lib.encodeRuneZ n := by
  unfold enc Lib.encodeRune
  rw [List.map_map]
  conv => rhs; rw [← List.map_id (Lib.encodeRuneZ n)]
  refine List.map_congr_left fun x hx => ?_
  obtain ⟨h0, h1⟩ := Lib.encodeRuneZ_byte n x hx
  simp [Function.comp, bz]
  omega
theorem map_bz_inj {a b : List UInt8} (h : a.map bz = b.map bz) : a = b := List.map_inj_right (fun _ _ => bz_inj) |>.1 h
inductive Wide : Int → Nat → Prop
  | one {n} : 0 ≤ n → n ≤ 127 → Wide n 1
  | two {n} : 128 ≤ n → n ≤ 2047 → Wide n 2
  | three {n} : (2048 ≤ n ∧ n < 55296) ∨ (57343 < n ∧ n ≤ 65535) → Wide n 3
  | four {n} : 65536 ≤ n → n ≤ 1114111 → Wide n 4
theorem wide_of {n : Int} (h : SignP n) : ∃ k, Wide n k := by
  unfold SignP at h
  by_cases h1 : n ≤ 127
  · exact ⟨1, .one (by omega) h1⟩
  by_cases h2 : n ≤ 2047
  · exact ⟨2, .two (by omega) h2⟩
  by_cases h3 : n ≤ 65535
  · exact ⟨3, .three (by omega)⟩
  · exact ⟨4, .four (by omega) (by omega)⟩
theorem enc_len {n : Int} {k : Nat} (h : Wide n k) : (enc n).length = k := by
  have e : (enc n).length = (Lib.encodeRuneZ n).length := by rw [← enc_bz, List.length_map]
  rw [e]
  cases h with
  | one a b => rw [Lib.encodeRuneZ_one a b]; rfl
  | two a b => rw [Lib.encodeRuneZ_two a b]; rfl
  | three a => rw [Lib.encodeRuneZ_three a]; rfl
  | four a b => rw [Lib.encodeRuneZ_four a b]; rfl
theorem enc_pos (n : Int) : 1 ≤ (enc n).length ∧ (enc n).length ≤ 4 := by
  have e : (enc n).length = (Lib.encodeRuneZ n).length := by rw [← enc_bz, List.length_map]
  rw [e]; exact Lib.encodeRuneZ_length n
theorem enc_ne (n : Int) : enc n ≠ [] := fun h => by have := (enc_pos n).1; rw [h] at this; simp at this
/-- no sign's bytes are the beginning of another's -/
theorem enc_free {m n : Int} (hm : SignP m) (hn : SignP n) {x y : List UInt8} (h : enc m ++ x = enc n ++ y) : m = n := by
  have h' : Lib.encodeRuneZ m ++ x.map bz = Lib.encodeRuneZ n ++ y.map bz := by
    rw [← enc_bz, ← enc_bz, ← List.map_append, ← List.map_append, h]
  obtain ⟨i, hi⟩ := wide_of hm
  obtain ⟨j, hj⟩ := wide_of hn
  cases hi with
  | one a b =>
    rw [Lib.encodeRuneZ_one a b] at h'
    cases hj with
    | one c d => rw [Lib.encodeRuneZ_one c d] at h'; simp at h'; omega
    | two c d => rw [Lib.encodeRuneZ_two c d] at h'; simp at h'; omega
    | three c => rw [Lib.encodeRuneZ_three c] at h'; simp at h'; omega
    | four c d => rw [Lib.encodeRuneZ_four c d] at h'; simp at h'; omega
  | two a b =>
    rw [Lib.encodeRuneZ_two a b] at h'
    cases hj with
    | one c d => rw [Lib.encodeRuneZ_one c d] at h'; simp at h'; omega
    | two c d => rw [Lib.encodeRuneZ_two c d] at h'; simp at h'; omega
    | three c => rw [Lib.encodeRuneZ_three c] at h'; simp at h'; omega
    | four c d => rw [Lib.encodeRuneZ_four c d] at h'; simp at h'; omega
  | three a =>
    rw [Lib.encodeRuneZ_three a] at h'
    cases hj with
    | one c d => rw [Lib.encodeRuneZ_one c d] at h'; simp at h'; omega
    | two c d => rw [Lib.encodeRuneZ_two c d] at h'; simp at h'; omega
    | three c => rw [Lib.encodeRuneZ_three c] at h'; simp at h'; omega
    | four c d => rw [Lib.encodeRuneZ_four c d] at h'; simp at h'; omega
  | four a b =>
    rw [Lib.encodeRuneZ_four a b] at h'
    cases hj with
    | one c d => rw [Lib.encodeRuneZ_one c d] at h'; simp at h'; omega
    | two c d => rw [Lib.encodeRuneZ_two c d] at h'; simp at h'; omega
    | three c => rw [Lib.encodeRuneZ_three c] at h'; simp at h'; omega
    | four c d => rw [Lib.encodeRuneZ_four c d] at h'; simp at h'; omega
/-- a text's bytes -/
def textB (l : List Int) : List UInt8 := l.flatMap enc
theorem textB_nil : textB [] = [] := rfl
theorem textB_cons (n : Int) (l : List Int) : textB (n :: l) = enc n ++ textB l := rfl
theorem textB_append (a b : List Int) : textB (a ++ b) = textB a ++ textB b := by unfold textB; rw [List.flatMap_append]
theorem textB_one (n : Int) : textB [n] = enc n := by simp [textB]
theorem textB_snoc (l : List Int) (n : Int) : textB (l ++ [n]) = textB l ++ enc n := by rw [textB_append, textB_one]
/-- no sign stands at the beginning -/
def NoSign (r : List UInt8) : Prop := ∀ n, SignP n → ¬ enc n <+: r
/-- bytes read as signs, as far as they are signs' -/
def Read (bs : List UInt8) (l : List Int) (r : List UInt8) : Prop := bs = textB l ++ r ∧ (∀ n ∈ l, SignP n) ∧ NoSign r
theorem noSign_nil : NoSign [] := fun n _ h => enc_ne n (List.prefix_nil.1 h)
theorem read_some (bs : List UInt8) : ∃ l r, Read bs l r := by
  suffices h : ∀ k (bs : List UInt8), bs.length ≤ k → ∃ l r, Read bs l r from h _ bs (Nat.le_refl _)
  intro k
  induction k with
  | zero =>
    intro bs h
    obtain rfl : bs = [] := List.eq_nil_of_length_eq_zero (by omega)
    exact ⟨[], [], rfl, (fun _ h => by cases h), noSign_nil⟩
  | succ k ih =>
    intro bs h
    by_cases hs : ∃ n, SignP n ∧ enc n <+: bs
    · obtain ⟨n, hn, t, rfl⟩ := hs
      have := (enc_pos n).1
      rw [List.length_append] at h
      obtain ⟨l, r, rfl, h2, h3⟩ := ih t (by omega)
      refine ⟨n :: l, r, by rw [textB_cons, List.append_assoc], ?_, h3⟩
      intro m hm
      rcases List.mem_cons.1 hm with rfl | hm
      · exact hn
      · exact h2 m hm
    · exact ⟨[], bs, rfl, (fun _ h => by cases h), fun n hn hp => hs ⟨n, hn, hp⟩⟩
theorem read_one {bs : List UInt8} {l l' : List Int} {r r' : List UInt8} (h : Read bs l r) (h' : Read bs l' r') : l = l' ∧ r = r' := by
  obtain ⟨rfl, h2, h3⟩ := h
  obtain ⟨e, h2', h3'⟩ := h'
  induction l generalizing l' with
  | nil =>
    cases l' with
    | nil => exact ⟨rfl, e⟩
    | cons n l' =>
      exfalso
      rw [textB_cons, List.append_assoc] at e
      exact h3 n (h2' n List.mem_cons_self) ⟨_, e.symm⟩
  | cons m l ih =>
    cases l' with
    | nil =>
      exfalso
      rw [textB_cons, List.append_assoc] at e
      exact h3' m (h2 m List.mem_cons_self) ⟨_, e⟩
    | cons n l' =>
      rw [textB_cons, textB_cons, List.append_assoc, List.append_assoc] at e
      obtain rfl := enc_free (h2 m List.mem_cons_self) (h2' n List.mem_cons_self) e
      obtain ⟨rfl, rfl⟩ := ih (fun x hx => h2 x (List.mem_cons_of_mem _ hx)) (List.append_cancel_left e) (fun x hx => h2' x (List.mem_cons_of_mem _ hx))
      exact ⟨rfl, rfl⟩
end Go.Proofs.YtbchkhjkajagfaaDoor
namespace Go.Proofs.YtbchkhjkajagfaaDoor
open Go Go.RowKit
theorem get_at (s : ByteArray) (i k : Nat) : (s.get! (i + k)).toNat = ((s.data.toList.drop i).getD k 0).toNat := by
  rw [List.getD_eq_getElem?_getD, List.getElem?_drop]
  by_cases h : i + k < s.size
  · have e : s.get! (i + k) = s[i + k]'h := by
      show s.get! (i + k) = _
      simp [ByteArray.get!, getElem!_pos, h]
      rfl
    rw [e]
    have : s.data.toList[i + k]? = some (s[i + k]'h) := by
      rw [List.getElem?_eq_getElem (by simpa using h)]; rfl
    rw [this]; rfl
  · have : s.data.toList[i + k]? = none := List.getElem?_eq_none (by simpa using h)
    rw [this]
    have hn : ¬ (i + k < s.data.size) := h
    show (s.data[i + k]!).toNat = _
    rw [getElem!_neg s.data (i + k) hn]
    rfl
/-- the reading of what stands from a place on -/
def decL (r : List UInt8) : Nat × Nat :=
  let at' (k : Nat) : Nat := (r.getD k 0).toNat
  let cont (k : Nat) : Bool := k < r.length && at' k / 64 == 2
  let b0 := at' 0
  if b0 < 0x80 then (b0, 1)
  else if b0 / 32 == 6 && cont 1 then
    let c := (b0 % 32) * 64 + at' 1 % 64
    if c ≥ 0x80 then (c, 2) else (65533, 1)
  else if b0 / 16 == 14 && cont 1 && cont 2 then
    let c := (b0 % 16) * 4096 + (at' 1 % 64) * 64 + at' 2 % 64
    if c ≥ 0x800 && Utf8.valid c then (c, 3) else (65533, 1)
  else if b0 / 8 == 30 && cont 1 && cont 2 && cont 3 then
    let c := (b0 % 8) * 262144 + (at' 1 % 64) * 4096 + (at' 2 % 64) * 64 + at' 3 % 64
    if c ≥ 0x10000 && Utf8.valid c then (c, 4) else (65533, 1)
  else (65533, 1)
theorem decode_eq (s : ByteArray) (i : Nat) : Utf8.decode s i = decL (s.data.toList.drop i) := by
  unfold Utf8.decode decL
  have hc : ∀ k, (decide (i + k < s.size)) = decide (k < (s.data.toList.drop i).length) := by
    intro k
    have e : (s.data.toList.drop i).length = s.size - i := by rw [List.length_drop]; rfl
    rw [e, decide_eq_decide]
    omega
  simp only [get_at, hc, Utf8.runeError]
theorem bz_of_nat {b : UInt8} {x : Int} (h : bz b = x) : (b.toNat : Int) = x := h
/-- what a sign's bytes read as -/
theorem decL_enc {n : Int} (hn : SignP n) (y : List UInt8) : decL (enc n ++ y) = (n.toNat, (enc n).length) := by
  obtain ⟨k, hk⟩ := wide_of hn
  rw [enc_len hk]
  have hb := enc_bz n
  have hl := enc_len hk
  have hv : Utf8.valid n = true := by unfold SignP at hn; unfold Utf8.valid; simp; omega
  cases hk with
  | one a b =>
    rw [Lib.encodeRuneZ_one a b] at hb
    match h : enc n, hl, hb with
    | [b0], _, hb =>
      simp [bz] at hb
      unfold decL
      simp only [List.cons_append, List.nil_append, List.getD_cons_zero]
      rw [if_pos (by omega)]
      congr 1; omega
  | two a b =>
    rw [Lib.encodeRuneZ_two a b] at hb
    match h : enc n, hl, hb with
    | [b0, b1], _, hb =>
      simp [bz] at hb
      obtain ⟨h0, h1⟩ := hb
      unfold decL
      simp only [List.cons_append, List.nil_append, List.getD_cons_zero, List.getD_cons_succ, List.length_cons]
      have c1 : (decide (1 < y.length + 1 + 1) && b1.toNat / 64 == 2) = true := by simp; omega
      rw [if_neg (by omega), if_pos (by rw [c1]; simp; omega), if_pos (by omega)]
      congr 1; omega
  | three a =>
    rw [Lib.encodeRuneZ_three a] at hb
    match h : enc n, hl, hb with
    | [b0, b1, b2], _, hb =>
      simp [bz] at hb
      obtain ⟨h0, h1, h2⟩ := hb
      unfold decL
      simp only [List.cons_append, List.nil_append, List.getD_cons_zero, List.getD_cons_succ, List.length_cons]
      have c1 : (decide (1 < y.length + 1 + 1 + 1) && b1.toNat / 64 == 2) = true := by simp; omega
      have c2 : (decide (2 < y.length + 1 + 1 + 1) && b2.toNat / 64 == 2) = true := by simp; omega
      have e : b0.toNat % 16 * 4096 + b1.toNat % 64 * 64 + b2.toNat % 64 = n.toNat := by omega
      have en : ((n.toNat : Nat) : Int) = n := by omega
      rw [if_neg (by omega), if_neg (by simp; omega), if_pos (by rw [c1, c2]; simp; omega), e, if_pos (by rw [en, hv]; simp; omega)]
  | four a b =>
    rw [Lib.encodeRuneZ_four a b] at hb
    match h : enc n, hl, hb with
    | [b0, b1, b2, b3], _, hb =>
      simp [bz] at hb
      obtain ⟨h0, h1, h2, h3⟩ := hb
      unfold decL
      simp only [List.cons_append, List.nil_append, List.getD_cons_zero, List.getD_cons_succ, List.length_cons]
      have c1 : (decide (1 < y.length + 1 + 1 + 1 + 1) && b1.toNat / 64 == 2) = true := by simp; omega
      have c2 : (decide (2 < y.length + 1 + 1 + 1 + 1) && b2.toNat / 64 == 2) = true := by simp; omega
      have c3 : (decide (3 < y.length + 1 + 1 + 1 + 1) && b3.toNat / 64 == 2) = true := by simp; omega
      have e : b0.toNat % 8 * 262144 + b1.toNat % 64 * 4096 + b2.toNat % 64 * 64 + b3.toNat % 64 = n.toNat := by omega
      have en : ((n.toNat : Nat) : Int) = n := by omega
      rw [if_neg (by omega), if_neg (by simp; omega), if_neg (by simp; omega), if_pos (by rw [c1, c2, c3]; simp; omega), e, if_pos (by rw [en, hv]; simp; omega)]
/-- a prefix, byte by byte -/
theorem prefix_of {n : Int} {r : List UInt8} {k : Nat} (hk : (Lib.encodeRuneZ n).length = k) (hl : k ≤ r.length) (h : ∀ j, j < k → bz (r.getD j 0) = (Lib.encodeRuneZ n).getD j 0) : enc n <+: r := by
  refine ⟨r.drop k, ?_⟩
  have e : enc n = r.take k := by
    refine map_bz_inj ?_
    rw [enc_bz]
    refine List.ext_getElem (by rw [List.length_map, List.length_take]; omega) fun j h1 h2 => ?_
    have hj : j < k := by omega
    have := h j hj
    rw [List.getD_eq_getElem?_getD, List.getElem?_eq_getElem (by omega), List.getD_eq_getElem?_getD, List.getElem?_eq_getElem h1] at this
    simp only [Option.getD_some] at this
    rw [← this, List.getElem_map, List.getElem_take]
  rw [e, List.take_append_drop]
/-- where no sign stands, one byte is taken for one that is none -/
theorem decL_none {r : List UInt8} (hr : r ≠ []) (h : NoSign r) : decL r = (65533, 1) := by
  have h0 := bz_lt (r.getD 0 0)
  have h1 := bz_lt (r.getD 1 0)
  have h2 := bz_lt (r.getD 2 0)
  have h3 := bz_lt (r.getD 3 0)
  have hl : 1 ≤ r.length := by
    cases r with
    | nil => exact absurd rfl hr
    | cons => simp
  have fin : ∀ n k, SignP n → (Lib.encodeRuneZ n).length = k → k ≤ r.length → (∀ j, j < k → bz (r.getD j 0) = (Lib.encodeRuneZ n).getD j 0) → False := fun n k a b c d => h n a (prefix_of b c d)
  have z0 : bz (r.getD 0 0) = ((r.getD 0 0).toNat : Int) := rfl
  have z1 : bz (r.getD 1 0) = ((r.getD 1 0).toNat : Int) := rfl
  have z2 : bz (r.getD 2 0) = ((r.getD 2 0).toNat : Int) := rfl
  have z3 : bz (r.getD 3 0) = ((r.getD 3 0).toNat : Int) := rfl
  generalize hx0 : (r.getD 0 0).toNat = x0 at *
  generalize hx1 : (r.getD 1 0).toNat = x1 at *
  generalize hx2 : (r.getD 2 0).toNat = x2 at *
  generalize hx3 : (r.getD 3 0).toNat = x3 at *
  unfold decL
  simp only [hx0, hx1, hx2, hx3]
  by_cases c0 : x0 < 128
  · exfalso
    have e := Lib.encodeRuneZ_one (r := (x0 : Int)) (by omega) (by omega)
    refine fin x0 1 (.inl ⟨by omega, by omega⟩) (by rw [e]; rfl) hl fun j hj => ?_
    obtain rfl : j = 0 := by omega
    rw [e, z0]; rfl
  rw [if_neg c0]
  by_cases c1 : (x0 / 32 == 6 && (decide (1 < r.length) && x1 / 64 == 2)) = true
  · rw [if_pos c1]
    simp at c1
    by_cases d : x0 % 32 * 64 + x1 % 64 ≥ 128
    · exfalso
      have e := Lib.encodeRuneZ_two (r := ((x0 % 32 * 64 + x1 % 64 : Nat) : Int)) (by omega) (by omega)
      refine fin ((x0 % 32 * 64 + x1 % 64 : Nat) : Int) 2 (.inl ⟨by omega, by omega⟩) (by rw [e]; rfl) (by omega) fun j hj => ?_
      rw [e]
      rcases (by omega : j = 0 ∨ j = 1) with rfl | rfl
      · rw [z0]; simp; omega
      · rw [z1]; simp; omega
    · rw [if_neg d]
  rw [if_neg c1]
  by_cases c2 : (x0 / 16 == 14 && (decide (1 < r.length) && x1 / 64 == 2) && (decide (2 < r.length) && x2 / 64 == 2)) = true
  · rw [if_pos c2]
    simp at c2
    by_cases d : (decide (x0 % 16 * 4096 + x1 % 64 * 64 + x2 % 64 ≥ 2048) && Utf8.valid ((x0 % 16 * 4096 + x1 % 64 * 64 + x2 % 64 : Nat) : Int)) = true
    · exfalso
      unfold Utf8.valid at d
      simp at d
      have e := Lib.encodeRuneZ_three (r := ((x0 % 16 * 4096 + x1 % 64 * 64 + x2 % 64 : Nat) : Int)) (by omega)
      refine fin ((x0 % 16 * 4096 + x1 % 64 * 64 + x2 % 64 : Nat) : Int) 3 (by unfold SignP; omega) (by rw [e]; rfl) (by omega) fun j hj => ?_
      rw [e]
      rcases (by omega : j = 0 ∨ j = 1 ∨ j = 2) with rfl | rfl | rfl
      · rw [z0]; simp; omega
      · rw [z1]; simp; omega
      · rw [z2]; simp; omega
    · rw [if_neg d]
  rw [if_neg c2]
  by_cases c3 : (x0 / 8 == 30 && (decide (1 < r.length) && x1 / 64 == 2) && (decide (2 < r.length) && x2 / 64 == 2) && (decide (3 < r.length) && x3 / 64 == 2)) = true
  · rw [if_pos c3]
    simp at c3
    by_cases d : (decide (x0 % 8 * 262144 + x1 % 64 * 4096 + x2 % 64 * 64 + x3 % 64 ≥ 65536) && Utf8.valid ((x0 % 8 * 262144 + x1 % 64 * 4096 + x2 % 64 * 64 + x3 % 64 : Nat) : Int)) = true
    · exfalso
      unfold Utf8.valid at d
      simp at d
      have e := Lib.encodeRuneZ_four (r := ((x0 % 8 * 262144 + x1 % 64 * 4096 + x2 % 64 * 64 + x3 % 64 : Nat) : Int)) (by omega) (by omega)
      refine fin ((x0 % 8 * 262144 + x1 % 64 * 4096 + x2 % 64 * 64 + x3 % 64 : Nat) : Int) 4 (by unfold SignP; omega) (by rw [e]; rfl) (by omega) fun j hj => ?_
      rw [e]
      rcases (by omega : j = 0 ∨ j = 1 ∨ j = 2 ∨ j = 3) with rfl | rfl | rfl | rfl
      · rw [z0]; simp; omega
      · rw [z1]; simp; omega
      · rw [z2]; simp; omega
      · rw [z3]; simp; omega
    · rw [if_neg d]
  rw [if_neg c3]
end Go.Proofs.YtbchkhjkajagfaaDoor
namespace Go.Proofs.YtbchkhjkajagfaaDoor
open Go Go.RowKit
set_option linter.unusedSimpArgs false
/-- byte k, as a number; 0 beyond the end -/
def byteV (r : List UInt8) (k : Nat) : Int := bz (r.getD k 0)
/-- how many bytes a sign has that begins so; 0: none does -/
def manyB (c : Int) : Nat := if c < 128 then 1 else if 192 ≤ c ∧ c < 224 then 2 else if 224 ≤ c ∧ c < 240 then 3 else if 240 ≤ c ∧ c < 248 then 4 else 0
def baseB (c : Int) : Int := if c < 128 then c else if c < 224 then c - 192 else if c < 240 then c - 224 else c - 240
/-- the number, k bytes behind the first one read -/
def accB (r : List UInt8) : Nat → Int
  | 0 => baseB (byteV r 0)
  | k + 1 => accB r k * 64 + byteV r (k + 1) - 128
def contB (r : List UInt8) (j : Nat) : Prop := 128 ≤ byteV r j ∧ byteV r j ≤ 191
theorem acc0 (r : List UInt8) : accB r 0 = baseB (byteV r 0) := rfl
theorem acc1 (r : List UInt8) : accB r 1 = baseB (byteV r 0) * 64 + byteV r 1 - 128 := rfl
theorem acc2 (r : List UInt8) : accB r 2 = (baseB (byteV r 0) * 64 + byteV r 1 - 128) * 64 + byteV r 2 - 128 := rfl
theorem acc3 (r : List UInt8) : accB r 3 = ((baseB (byteV r 0) * 64 + byteV r 1 - 128) * 64 + byteV r 2 - 128) * 64 + byteV r 3 - 128 := rfl
theorem byteV_lt (r : List UInt8) (k : Nat) : 0 ≤ byteV r k ∧ byteV r k < 256 := bz_lt _
theorem byteV_pre {n : Int} {r : List UInt8} (h : enc n <+: r) (j : Nat) (hj : j < (enc n).length) : byteV r j = (Lib.encodeRuneZ n).getD j 0 := by
  obtain ⟨t, rfl⟩ := h
  unfold byteV
  rw [← enc_bz, List.getD_eq_getElem?_getD, List.getD_eq_getElem?_getD, List.getElem?_append_left hj, List.getElem?_map, List.getElem?_eq_getElem hj]
  rfl
theorem pre_facts {n : Int} {r : List UInt8} (hn : SignP n) (h : enc n <+: r) :
    (enc n).length ≤ r.length ∧ manyB (byteV r 0) = (enc n).length ∧ (∀ j, 1 ≤ j → j < (enc n).length → contB r j) ∧ accB r ((enc n).length - 1) = n := by
  have hl : (enc n).length ≤ r.length := h.length_le
  obtain ⟨k, hk⟩ := wide_of hn
  have hb := byteV_pre h
  rw [enc_len hk] at hb hl ⊢
  refine ⟨hl, ?_⟩
  cases hk with
  | one a b =>
    rw [Lib.encodeRuneZ_one a b] at hb
    have h0 := hb 0 (by omega)
    simp at h0
    exact ⟨by unfold manyB; rw [if_pos (by omega)], (fun j h1 h2 => by omega), by rw [Nat.sub_self, acc0]; unfold baseB; rw [if_pos (by omega), h0]⟩
  | two a b =>
    rw [Lib.encodeRuneZ_two a b] at hb
    have h0 := hb 0 (by omega)
    have h1 := hb 1 (by omega)
    simp at h0 h1
    refine ⟨by unfold manyB; rw [if_neg (by omega), if_pos (by omega)], fun j j1 j2 => ?_, ?_⟩
    · obtain rfl : j = 1 := by omega
      unfold contB; omega
    · simp only [Nat.reduceSub, acc0, acc1, acc2, acc3]
      unfold baseB; rw [if_neg (by omega), if_pos (by omega)]; omega
  | three a =>
    rw [Lib.encodeRuneZ_three a] at hb
    have h0 := hb 0 (by omega)
    have h1 := hb 1 (by omega)
    have h2 := hb 2 (by omega)
    simp at h0 h1 h2
    refine ⟨by unfold manyB; rw [if_neg (by omega), if_neg (by omega), if_pos (by omega)], fun j j1 j2 => ?_, ?_⟩
    · rcases (by omega : j = 1 ∨ j = 2) with rfl | rfl
      all_goals unfold contB; omega
    · simp only [Nat.reduceSub, acc0, acc1, acc2, acc3]
      unfold baseB; rw [if_neg (by omega), if_neg (by omega), if_pos (by omega)]; omega
  | four a b =>
    rw [Lib.encodeRuneZ_four a b] at hb
    have h0 := hb 0 (by omega)
    have h1 := hb 1 (by omega)
    have h2 := hb 2 (by omega)
    have h3 := hb 3 (by omega)
    simp at h0 h1 h2 h3
    refine ⟨by unfold manyB; rw [if_neg (by omega), if_neg (by omega), if_neg (by omega), if_pos (by omega)], fun j j1 j2 => ?_, ?_⟩
    · rcases (by omega : j = 1 ∨ j = 2 ∨ j = 3) with rfl | rfl | rfl
      all_goals unfold contB; omega
    · simp only [Nat.reduceSub, acc0, acc1, acc2, acc3]
      unfold baseB; rw [if_neg (by omega), if_neg (by omega), if_neg (by omega)]; omega
theorem no_many {r : List UInt8} (h : manyB (byteV r 0) = 0) : NoSign r := fun n hn hp => by
  have := pre_facts hn hp
  have := (enc_pos n).1
  omega
theorem no_short {r : List UInt8} (h : r.length < manyB (byteV r 0)) : NoSign r := fun n hn hp => by
  have := pre_facts hn hp
  omega
theorem no_cont {r : List UInt8} {j : Nat} (h1 : 1 ≤ j) (h2 : j < manyB (byteV r 0)) (h3 : ¬ contB r j) : NoSign r := fun n hn hp => by
  have := pre_facts hn hp
  exact h3 (this.2.2.1 j h1 (by omega))
theorem no_sign {r : List UInt8} {k : Nat} (hk : manyB (byteV r 0) = k) (h : ¬ SignP (accB r (k - 1))) : NoSign r := fun n hn hp => by
  obtain ⟨_, h2, _, h4⟩ := pre_facts hn hp
  rw [← h2, hk] at h4
  exact h (by rw [h4]; exact hn)
theorem no_len {r : List UInt8} {k : Nat} (hk : manyB (byteV r 0) = k) (h : (enc (accB r (k - 1))).length ≠ k) : NoSign r := fun n hn hp => by
  obtain ⟨_, h2, _, h4⟩ := pre_facts hn hp
  rw [← h2, hk] at h4
  rw [h4] at h
  omega
theorem yes_one {r : List UInt8} (hr : r ≠ []) (h : byteV r 0 < 128) : SignP (byteV r 0) ∧ enc (byteV r 0) <+: r ∧ (enc (byteV r 0)).length = 1 := by
  have h0 := byteV_lt r 0
  have hl : 1 ≤ r.length := by
    cases r with
    | nil => exact absurd rfl hr
    | cons => simp
  have e := Lib.encodeRuneZ_one (r := byteV r 0) h0.1 (by omega)
  refine ⟨.inl ⟨h0.1, by omega⟩, prefix_of (k := 1) (by rw [e]; rfl) hl fun j hj => ?_, enc_len (.one h0.1 (by omega))⟩
  obtain rfl : j = 0 := by omega
  rw [e]; rfl
theorem acc_part {r : List UInt8} {K k : Nat} (hk : manyB (byteV r 0) = K) (h1 : 2 ≤ K) (k1 : 1 ≤ k) (k2 : k ≤ K) (hc : ∀ j, 1 ≤ j → j < k → contB r j) : 0 ≤ accB r (k - 1) ∧ accB r (k - 1) < 2097152 := by
  have h0 := byteV_lt r 0
  have b0 : 0 ≤ accB r 0 ∧ accB r 0 < 32 ∧ (2 < K → accB r 0 < 16) ∧ (3 < K → accB r 0 < 8) := by
    rw [acc0]
    unfold manyB at hk
    unfold baseB
    split at hk
    · omega
    · rename_i n1
      split at hk
      · rw [if_neg n1, if_pos (by omega)]; omega
      · split at hk
        · rw [if_neg n1, if_neg (by omega), if_pos (by omega)]; omega
        · split at hk
          · rw [if_neg n1, if_neg (by omega), if_neg (by omega)]; omega
          · omega
  have hk4 : K ≤ 4 := by unfold manyB at hk; (repeat' split at hk) <;> omega
  rcases (by omega : k = 1 ∨ k = 2 ∨ k = 3 ∨ k = 4) with rfl | rfl | rfl | rfl
  · rw [Nat.sub_self]; omega
  · have c1 := hc 1 (by omega) (by omega)
    unfold contB at c1
    simp only [Nat.reduceSub, acc0, acc1] at b0 ⊢
    omega
  · have c1 := hc 1 (by omega) (by omega)
    have c2 := hc 2 (by omega) (by omega)
    unfold contB at c1 c2
    simp only [Nat.reduceSub, acc0, acc2] at b0 ⊢
    omega
  · have c1 := hc 1 (by omega) (by omega)
    have c2 := hc 2 (by omega) (by omega)
    have c3 := hc 3 (by omega) (by omega)
    unfold contB at c1 c2 c3
    simp only [Nat.reduceSub, acc0, acc3] at b0 ⊢
    omega
theorem yes_many {r : List UInt8} {k : Nat} (hk : manyB (byteV r 0) = k) (h2 : 2 ≤ k) (hl : k ≤ r.length) (hc : ∀ j, 1 ≤ j → j < k → contB r j) (hs : SignP (accB r (k - 1))) (he : (enc (accB r (k - 1))).length = k) :
    enc (accB r (k - 1)) <+: r := by
  have h0 := byteV_lt r 0
  obtain ⟨i, hi⟩ := wide_of hs
  have hik : i = k := by rw [← enc_len hi]; exact he
  subst hik
  have hz : (Lib.encodeRuneZ (accB r (i - 1))).length = i := by rw [← enc_bz, List.length_map]; exact he
  refine prefix_of hz hl fun j hj => ?_
  show byteV r j = _
  generalize hN : accB r (i - 1) = N at hi
  cases hi with
  | one a b => omega
  | two a b =>
    have c1 := hc 1 (by omega) (by omega)
    unfold contB at c1
    rw [Lib.encodeRuneZ_two a b]
    simp only [Nat.reduceSub, acc0, acc1, acc2, acc3] at hN
    unfold manyB at hk
    unfold baseB at hN
    rcases (by omega : j = 0 ∨ j = 1) with rfl | rfl
    all_goals simp
    all_goals (repeat' split at hk) <;> first | omega | ((repeat' split at hN) <;> omega)
  | three a =>
    have c1 := hc 1 (by omega) (by omega)
    have c2 := hc 2 (by omega) (by omega)
    unfold contB at c1 c2
    rw [Lib.encodeRuneZ_three a]
    simp only [Nat.reduceSub, acc0, acc1, acc2, acc3] at hN
    unfold manyB at hk
    unfold baseB at hN
    rcases (by omega : j = 0 ∨ j = 1 ∨ j = 2) with rfl | rfl | rfl
    all_goals simp
    all_goals (repeat' split at hk) <;> first | omega | ((repeat' split at hN) <;> omega)
  | four a b =>
    have c1 := hc 1 (by omega) (by omega)
    have c2 := hc 2 (by omega) (by omega)
    have c3 := hc 3 (by omega) (by omega)
    unfold contB at c1 c2 c3
    rw [Lib.encodeRuneZ_four a b]
    simp only [Nat.reduceSub, acc0, acc1, acc2, acc3] at hN
    unfold manyB at hk
    unfold baseB at hN
    rcases (by omega : j = 0 ∨ j = 1 ∨ j = 2 ∨ j = 3) with rfl | rfl | rfl | rfl
    all_goals simp
    all_goals (repeat' split at hk) <;> first | omega | ((repeat' split at hN) <;> omega)
end Go.Proofs.YtbchkhjkajagfaaDoor
namespace Go.Proofs.YtbchkhjkajagfaaDoor
open Go Go.RowKit
theorem int_eq {k : IntKind} {a b : Int} (h : a = b) : Value.int k a = .int k b := by rw [h]
theorem ret_one {v u : Value} (h : v = u) : Ending.returned v = .returned u := by rw [h]
theorem ret_two {v1 v2 u1 u2 : Value} (h1 : v1 = u1) (h2 : v2 = u2) : Ending.returned (.tuple #[v1, v2]) = .returned (.tuple #[u1, u2]) := by rw [h1, h2]
theorem ret_bool {a b : Bool} (h : a = b) : Ending.returned (.bool a) = .returned (.bool b) := by rw [h]
theorem ret_int {k : IntKind} {a b : Int} (h : a = b) : Ending.returned (.int k a) = .returned (.int k b) := by rw [h]
theorem sign_yes (n : Int) (w : World) (h : SignP n) : Calls Tryd.prog 60 #[.int .i64 n] w fun e w' => e = .returned (.bool true) ∧ w = w' := by
  rcases h with ⟨h0, h1⟩ | ⟨h0, h1⟩
  · have h2 : n ≤ 1114111 := by omega
    go_enter Tryd.func60, Tryd.ntmps60
    go_wp2
    go_ret
    exact ⟨rfl, rfl⟩
  · have h2 : 0 ≤ n := by omega
    have h3 : 55296 ≤ n := by omega
    go_enter Tryd.func60, Tryd.ntmps60
    go_wp2
    go_ret
    exact ⟨rfl, rfl⟩
theorem sign_no (n : Int) (w : World) (h : ¬ SignP n) : Calls Tryd.prog 60 #[.int .i64 n] w fun e w' => e = .returned (.bool false) ∧ w = w' := by
  have hc : n < 0 ∨ 1114111 < n ∨ (55296 ≤ n ∧ n ≤ 57343) := by unfold SignP at h; omega
  clear h
  rcases hc with h0 | h0 | ⟨h0, h1⟩
  · go_enter Tryd.func60, Tryd.ntmps60
    go_wp2
    go_ret
    exact ⟨rfl, rfl⟩
  · have h2 : 0 ≤ n := by omega
    go_enter Tryd.func60, Tryd.ntmps60
    go_wp2
    go_ret
    exact ⟨rfl, rfl⟩
  · have h2 : 0 ≤ n := by omega
    have h3 : n ≤ 1114111 := by omega
    go_enter Tryd.func60, Tryd.ntmps60
    go_wp2
    go_ret
    exact ⟨ret_bool (by simp; omega), rfl⟩
/-- what Bytes makes: a row of the sign's bytes -/
theorem bytes_any (n : Int) (w : World) (h : SignP n) : Calls Tryd.prog 61 #[.int .i64 n] w fun e w' =>
    e = .returned (.slice (some ⟨w.heap.size, 0, none⟩) (enc n).length (enc n).length) ∧ w' = w.alloc (.cells (Lib.runeCells n).toArray 5) := by
  obtain ⟨k, hk⟩ := wide_of h
  rw [enc_len hk]
  unfold Lib.runeCells
  cases hk with
  | one a b =>
    rw [Lib.encodeRuneZ_one a b]
    go_enter Tryd.func61, Tryd.ntmps61
    go_wp2
    go_ret
    exact ⟨rfl, rfl⟩
  | two a b =>
    rw [Lib.encodeRuneZ_two a b]
    go_enter Tryd.func61, Tryd.ntmps61
    go_wp2
    go_ret
    exact ⟨rfl, rfl⟩
  | three a =>
    have a1 : 2048 ≤ n := by omega
    have a2 : n ≤ 65535 := by omega
    rw [Lib.encodeRuneZ_three a]
    clear a h
    go_enter Tryd.func61, Tryd.ntmps61
    go_wp2
    go_ret
    exact ⟨rfl, rfl⟩
  | four a b =>
    rw [Lib.encodeRuneZ_four a b]
    go_enter Tryd.func61, Tryd.ntmps61
    go_wp2
    go_ret
    exact ⟨rfl, rfl⟩
theorem byteV_get (s : ByteArray) (k : Nat) (h : k < s.size) : byteV s.data.toList k = ((s[k]'h).toNat : Int) := by
  unfold byteV bz
  rw [List.getD_eq_getElem?_getD, List.getElem?_eq_getElem (by simpa using h)]
  rfl
set_option linter.unusedVariables false
/-- what first comes to -/
def FirstRes (r : List UInt8) (w : World) (e : Ending) (w' : World) : Prop :=
  ((∃ n, SignP n ∧ enc n <+: r ∧ e = .returned (.tuple #[.int .i64 n, .int .i64 (enc n).length])) ∨ (NoSign r ∧ e = .returned (.tuple #[.int .i64 (-1), .int .i64 0]))) ∧ Below w.heap.size w w'
theorem first_none {r : List UInt8} {w w' : World} (h : NoSign r) (hb : Below w.heap.size w w') : FirstRes r w (.returned (.tuple #[.int .i64 (-1), .int .i64 0])) w' := ⟨.inr ⟨h, rfl⟩, hb⟩
theorem first_some {r : List UInt8} {w w' : World} {n m : Int} (hn : SignP n) (h : enc n <+: r) (hm : m = (enc n).length) (hb : Below w.heap.size w w') : FirstRes r w (.returned (.tuple #[.int .i64 n, .int .i64 m])) w' := ⟨.inl ⟨n, hn, h, by rw [hm]⟩, hb⟩
set_option maxRecDepth 100000 in
set_option maxHeartbeats 3200000 in
theorem first_c1 (s : ByteArray) (w : World) (h0 : 0 < s.size) (hs : s.size ≤ 9223372036854775807) (hi : ((s[0]'h0).toNat : Int) < 128) : Calls Tryd.prog 33 #[.string s] w (FirstRes s.data.toList w) := by
  have hne : s.data.toList ≠ [] := by intro h; have : s.size = 0 := by show s.data.size = 0; rw [← Array.length_toList, h]; rfl
                                      omega
  have hlen : s.data.toList.length = s.size := rfl
  have e0 := byteV_get s 0 h0
  have hb0 := byteV_lt s.data.toList 0
  rw [e0] at hb0
  have H0 := Lib.hid e0
  have HY := Lib.hid (yes_one hne (by rw [e0]; exact hi))
  clear hlen e0 hne
  go_enter Tryd.func33, Tryd.ntmps33
  go_wp2_with fail
  go_ret2
  obtain ⟨y1, y2, y3⟩ := HY.out
  rw [H0.out] at y1 y2 y3
  exact first_some y1 y2 (by rw [y3]; rfl) (Below.refl _ _)
set_option maxRecDepth 100000 in
set_option maxHeartbeats 3200000 in
theorem first_c0 (s : ByteArray) (w : World) (h0 : 0 < s.size) (hs : s.size ≤ 9223372036854775807) (lo : 128 ≤ ((s[0]'h0).toNat : Int)) (hi : ((s[0]'h0).toNat : Int) < 192) : Calls Tryd.prog 33 #[.string s] w (FirstRes s.data.toList w) := by
  have hne : s.data.toList ≠ [] := by intro h; have : s.size = 0 := by show s.data.size = 0; rw [← Array.length_toList, h]; rfl
                                      omega
  have hlen : s.data.toList.length = s.size := rfl
  have e0 := byteV_get s 0 h0
  have hb0 := byteV_lt s.data.toList 0
  rw [e0] at hb0
  have HN := Lib.hid (no_many (r := s.data.toList) (by rw [e0]; unfold manyB; rw [if_neg (by omega), if_neg (by omega), if_neg (by omega), if_neg (by omega)]))
  clear hlen e0 hne
  go_enter Tryd.func33, Tryd.ntmps33
  go_wp2_with fail
  go_ret2
  exact first_none HN.out (Below.refl _ _)
set_option maxRecDepth 100000 in
set_option maxHeartbeats 3200000 in
theorem first_c2 (s : ByteArray) (w : World) (h0 : 0 < s.size) (hs : s.size ≤ 9223372036854775807) (lo : 192 ≤ ((s[0]'h0).toNat : Int)) (hi : ((s[0]'h0).toNat : Int) < 224) : Calls Tryd.prog 33 #[.string s] w (FirstRes s.data.toList w) := by
  have hne : s.data.toList ≠ [] := by intro h; have : s.size = 0 := by show s.data.size = 0; rw [← Array.length_toList, h]; rfl
                                      omega
  have hlen : s.data.toList.length = s.size := rfl
  have e0 := byteV_get s 0 h0
  have hb0 := byteV_lt s.data.toList 0
  rw [e0] at hb0
  have hm : manyB (byteV s.data.toList 0) = 2 := by rw [e0]; unfold manyB; rw [if_neg (by omega), if_pos (by omega)]
  have hac : accB s.data.toList 0 = ((s[0]'h0).toNat : Int) - 192 := by rw [acc0, e0]; unfold baseB; rw [if_neg (by omega), if_pos (by omega)]
  by_cases hl : s.size < 2
  · have HN := Lib.hid (no_short (r := s.data.toList) (by rw [hm, hlen]; exact hl))
    have hl' : (s.size : Int) < 2 := by omega
    clear hm hac hlen e0 hne
    go_enter Tryd.func33, Tryd.ntmps33
    go_wp2_with fail
    go_ret2
    exact first_none HN.out (Below.refl _ _)
  · have HM := Lib.hid hm
    have HA := Lib.hid hac
    have hl' : 2 ≤ s.size := by omega
    clear hm hac hlen e0 hne hl
    go_enter Tryd.func33, Tryd.ntmps33
    go_wp2_with fail
    go_loop [4, 7] (fun n i => ∃ k : Nat, 1 ≤ k ∧ k ≤ 2 ∧ Hid (∀ j, 1 ≤ j → j < k → contB s.data.toList j) ∧ i = .int .i64 k ∧ n = .int .i64 (accB s.data.toList (k - 1))) (fun _ i => 2 - (intOf i).toNat)
    case atStart => exact ⟨1, by omega, by omega, Lib.hid (fun j h1 h2 => by omega), rfl, by rw [Nat.sub_self, HA.out]⟩
    case round =>
      obtain ⟨k, k1, k2, hcont, rfl, rfl⟩ := hrel
      obtain ⟨a1, a2⟩ := acc_part HM.out (by omega) k1 k2 hcont.out
      by_cases hlt : k < 2
      · have hks : k < s.size := by omega
        have HB := Lib.hid (byteV_get s k hks)
        have hbk := byteV_lt s.data.toList k
        rw [HB.out] at hbk
        have hnx : Hid (accB s.data.toList (k + 1 - 1) = accB s.data.toList (k - 1) * 64 + ((s[k]'hks).toNat : Int) - 128) := by
          obtain ⟨m, rfl⟩ : ∃ m, k = m + 1 := ⟨k - 1, by omega⟩
          rw [← HB.out]; exact Lib.hid rfl
        by_cases hd : 128 ≤ ((s[k]'hks).toNat : Int) ∧ ((s[k]'hks).toNat : Int) ≤ 191
        · obtain ⟨d1, d2⟩ := hd
          have hcont' : Hid (∀ j, 1 ≤ j → j < k + 1 → contB s.data.toList j) := Lib.hid (fun j j1 j2 => by
            by_cases hj : j < k
            · exact hcont.out j j1 hj
            · obtain rfl : j = k := by omega
              unfold contB; rw [HB.out]; exact ⟨d1, d2⟩)
          clear hcont
          generalize accB s.data.toList (k - 1) = N at a1 a2 hnx ⊢
          go_wp2_with fail
          go_round
          case rel => exact ⟨k + 1, by omega, by omega, hcont', by go_num, by rw [hnx.out]⟩
          case measure => simp [intOf]; omega
        · have HN := Lib.hid (no_cont (r := s.data.toList) (j := k) k1 (by rw [HM.out]; exact hlt) (by unfold contB; rw [HB.out]; exact hd))
          clear hnx hcont
          rcases (by omega : ((s[k]'hks).toNat : Int) < 128 ∨ 191 < ((s[k]'hks).toNat : Int)) with hd1 | hd1
          all_goals
            clear hd
            go_wp2_with fail
            go_ret2
            exact first_none HN.out (Below.refl _ _)
      · obtain rfl : k = 2 := by omega
        clear k1 k2 hlt
        by_cases hs1 : SignP (accB s.data.toList (2 - 1))
        · by_cases hs2 : (enc (accB s.data.toList (2 - 1))).length = 2
          · have HY := Lib.hid (yes_many HM.out (by omega) hl' hcont.out hs1 hs2)
            have hs3 : (((enc (accB s.data.toList (2 - 1))).length : Int) != 2) = false := by simp [hs2]
            have HS1 := Lib.hid hs1
            have HS2 := Lib.hid hs2
            clear hs1 hs2 hcont
            generalize accB s.data.toList (2 - 1) = N at a1 a2 HY hs3 HS1 HS2 ⊢
            go_wp2_with (first | (go_at_call 60; refine (sign_yes N _ HS1.out).mono ?_; rintro e w' ⟨rfl, rfl⟩) | (go_at_call 61; refine (bytes_any N _ HS1.out).mono ?_; rintro e w' ⟨rfl, rfl⟩))
            go_ret2
            exact first_some HS1.out HY.out (by rw [HS2.out]; rfl) ((Below.refl _ _).alloc (Nat.le_refl _) _)
          · have HN := Lib.hid (no_len HM.out hs2)
            have hs3 : (((enc (accB s.data.toList (2 - 1))).length : Int) != 2) = true := bne_iff_ne.mpr (by omega)
            have HS1 := Lib.hid hs1
            clear hs1 hs2 hcont
            generalize accB s.data.toList (2 - 1) = N at a1 a2 hs3 HS1 ⊢
            go_wp2_with (first | (go_at_call 60; refine (sign_yes N _ HS1.out).mono ?_; rintro e w' ⟨rfl, rfl⟩) | (go_at_call 61; refine (bytes_any N _ HS1.out).mono ?_; rintro e w' ⟨rfl, rfl⟩))
            go_ret2
            exact first_none HN.out ((Below.refl _ _).alloc (Nat.le_refl _) _)
        · have HN := Lib.hid (no_sign HM.out hs1)
          have HS1 := Lib.hid hs1
          clear hs1 hcont
          generalize accB s.data.toList (2 - 1) = N at a1 a2 HS1 ⊢
          go_wp2_with (go_at_call 60; refine (sign_no N _ HS1.out).mono ?_; rintro e w' ⟨rfl, rfl⟩)
          go_ret2
          exact first_none HN.out (Below.refl _ _)
set_option maxRecDepth 100000 in
set_option maxHeartbeats 3200000 in
theorem first_c3 (s : ByteArray) (w : World) (h0 : 0 < s.size) (hs : s.size ≤ 9223372036854775807) (lo : 224 ≤ ((s[0]'h0).toNat : Int)) (hi : ((s[0]'h0).toNat : Int) < 240) : Calls Tryd.prog 33 #[.string s] w (FirstRes s.data.toList w) := by
  have hne : s.data.toList ≠ [] := by intro h; have : s.size = 0 := by show s.data.size = 0; rw [← Array.length_toList, h]; rfl
                                      omega
  have hlen : s.data.toList.length = s.size := rfl
  have e0 := byteV_get s 0 h0
  have hb0 := byteV_lt s.data.toList 0
  rw [e0] at hb0
  have hm : manyB (byteV s.data.toList 0) = 3 := by rw [e0]; unfold manyB; rw [if_neg (by omega), if_neg (by omega), if_pos (by omega)]
  have hac : accB s.data.toList 0 = ((s[0]'h0).toNat : Int) - 224 := by rw [acc0, e0]; unfold baseB; rw [if_neg (by omega), if_neg (by omega), if_pos (by omega)]
  by_cases hl : s.size < 3
  · have HN := Lib.hid (no_short (r := s.data.toList) (by rw [hm, hlen]; exact hl))
    have hl' : (s.size : Int) < 3 := by omega
    clear hm hac hlen e0 hne
    go_enter Tryd.func33, Tryd.ntmps33
    go_wp2_with fail
    go_ret2
    exact first_none HN.out (Below.refl _ _)
  · have HM := Lib.hid hm
    have HA := Lib.hid hac
    have hl' : 3 ≤ s.size := by omega
    clear hm hac hlen e0 hne hl
    go_enter Tryd.func33, Tryd.ntmps33
    go_wp2_with fail
    go_loop [4, 7] (fun n i => ∃ k : Nat, 1 ≤ k ∧ k ≤ 3 ∧ Hid (∀ j, 1 ≤ j → j < k → contB s.data.toList j) ∧ i = .int .i64 k ∧ n = .int .i64 (accB s.data.toList (k - 1))) (fun _ i => 3 - (intOf i).toNat)
    case atStart => exact ⟨1, by omega, by omega, Lib.hid (fun j h1 h2 => by omega), rfl, by rw [Nat.sub_self, HA.out]⟩
    case round =>
      obtain ⟨k, k1, k2, hcont, rfl, rfl⟩ := hrel
      obtain ⟨a1, a2⟩ := acc_part HM.out (by omega) k1 k2 hcont.out
      by_cases hlt : k < 3
      · have hks : k < s.size := by omega
        have HB := Lib.hid (byteV_get s k hks)
        have hbk := byteV_lt s.data.toList k
        rw [HB.out] at hbk
        have hnx : Hid (accB s.data.toList (k + 1 - 1) = accB s.data.toList (k - 1) * 64 + ((s[k]'hks).toNat : Int) - 128) := by
          obtain ⟨m, rfl⟩ : ∃ m, k = m + 1 := ⟨k - 1, by omega⟩
          rw [← HB.out]; exact Lib.hid rfl
        by_cases hd : 128 ≤ ((s[k]'hks).toNat : Int) ∧ ((s[k]'hks).toNat : Int) ≤ 191
        · obtain ⟨d1, d2⟩ := hd
          have hcont' : Hid (∀ j, 1 ≤ j → j < k + 1 → contB s.data.toList j) := Lib.hid (fun j j1 j2 => by
            by_cases hj : j < k
            · exact hcont.out j j1 hj
            · obtain rfl : j = k := by omega
              unfold contB; rw [HB.out]; exact ⟨d1, d2⟩)
          clear hcont
          generalize accB s.data.toList (k - 1) = N at a1 a2 hnx ⊢
          go_wp2_with fail
          go_round
          case rel => exact ⟨k + 1, by omega, by omega, hcont', by go_num, by rw [hnx.out]⟩
          case measure => simp [intOf]; omega
        · have HN := Lib.hid (no_cont (r := s.data.toList) (j := k) k1 (by rw [HM.out]; exact hlt) (by unfold contB; rw [HB.out]; exact hd))
          clear hnx hcont
          rcases (by omega : ((s[k]'hks).toNat : Int) < 128 ∨ 191 < ((s[k]'hks).toNat : Int)) with hd1 | hd1
          all_goals
            clear hd
            go_wp2_with fail
            go_ret2
            exact first_none HN.out (Below.refl _ _)
      · obtain rfl : k = 3 := by omega
        clear k1 k2 hlt
        by_cases hs1 : SignP (accB s.data.toList (3 - 1))
        · by_cases hs2 : (enc (accB s.data.toList (3 - 1))).length = 3
          · have HY := Lib.hid (yes_many HM.out (by omega) hl' hcont.out hs1 hs2)
            have hs3 : (((enc (accB s.data.toList (3 - 1))).length : Int) != 3) = false := by simp [hs2]
            have HS1 := Lib.hid hs1
            have HS2 := Lib.hid hs2
            clear hs1 hs2 hcont
            generalize accB s.data.toList (3 - 1) = N at a1 a2 HY hs3 HS1 HS2 ⊢
            go_wp2_with (first | (go_at_call 60; refine (sign_yes N _ HS1.out).mono ?_; rintro e w' ⟨rfl, rfl⟩) | (go_at_call 61; refine (bytes_any N _ HS1.out).mono ?_; rintro e w' ⟨rfl, rfl⟩))
            go_ret2
            exact first_some HS1.out HY.out (by rw [HS2.out]; rfl) ((Below.refl _ _).alloc (Nat.le_refl _) _)
          · have HN := Lib.hid (no_len HM.out hs2)
            have hs3 : (((enc (accB s.data.toList (3 - 1))).length : Int) != 3) = true := bne_iff_ne.mpr (by omega)
            have HS1 := Lib.hid hs1
            clear hs1 hs2 hcont
            generalize accB s.data.toList (3 - 1) = N at a1 a2 hs3 HS1 ⊢
            go_wp2_with (first | (go_at_call 60; refine (sign_yes N _ HS1.out).mono ?_; rintro e w' ⟨rfl, rfl⟩) | (go_at_call 61; refine (bytes_any N _ HS1.out).mono ?_; rintro e w' ⟨rfl, rfl⟩))
            go_ret2
            exact first_none HN.out ((Below.refl _ _).alloc (Nat.le_refl _) _)
        · have HN := Lib.hid (no_sign HM.out hs1)
          have HS1 := Lib.hid hs1
          clear hs1 hcont
          generalize accB s.data.toList (3 - 1) = N at a1 a2 HS1 ⊢
          go_wp2_with (go_at_call 60; refine (sign_no N _ HS1.out).mono ?_; rintro e w' ⟨rfl, rfl⟩)
          go_ret2
          exact first_none HN.out (Below.refl _ _)
set_option maxRecDepth 100000 in
set_option maxHeartbeats 3200000 in
theorem first_c4 (s : ByteArray) (w : World) (h0 : 0 < s.size) (hs : s.size ≤ 9223372036854775807) (lo : 240 ≤ ((s[0]'h0).toNat : Int)) (hi : ((s[0]'h0).toNat : Int) < 248) : Calls Tryd.prog 33 #[.string s] w (FirstRes s.data.toList w) := by
  have hne : s.data.toList ≠ [] := by intro h; have : s.size = 0 := by show s.data.size = 0; rw [← Array.length_toList, h]; rfl
                                      omega
  have hlen : s.data.toList.length = s.size := rfl
  have e0 := byteV_get s 0 h0
  have hb0 := byteV_lt s.data.toList 0
  rw [e0] at hb0
  have hm : manyB (byteV s.data.toList 0) = 4 := by rw [e0]; unfold manyB; rw [if_neg (by omega), if_neg (by omega), if_neg (by omega), if_pos (by omega)]
  have hac : accB s.data.toList 0 = ((s[0]'h0).toNat : Int) - 240 := by rw [acc0, e0]; unfold baseB; rw [if_neg (by omega), if_neg (by omega), if_neg (by omega)]
  by_cases hl : s.size < 4
  · have HN := Lib.hid (no_short (r := s.data.toList) (by rw [hm, hlen]; exact hl))
    have hl' : (s.size : Int) < 4 := by omega
    clear hm hac hlen e0 hne
    go_enter Tryd.func33, Tryd.ntmps33
    go_wp2_with fail
    go_ret2
    exact first_none HN.out (Below.refl _ _)
  · have HM := Lib.hid hm
    have HA := Lib.hid hac
    have hl' : 4 ≤ s.size := by omega
    clear hm hac hlen e0 hne hl
    go_enter Tryd.func33, Tryd.ntmps33
    go_wp2_with fail
    go_loop [4, 7] (fun n i => ∃ k : Nat, 1 ≤ k ∧ k ≤ 4 ∧ Hid (∀ j, 1 ≤ j → j < k → contB s.data.toList j) ∧ i = .int .i64 k ∧ n = .int .i64 (accB s.data.toList (k - 1))) (fun _ i => 4 - (intOf i).toNat)
    case atStart => exact ⟨1, by omega, by omega, Lib.hid (fun j h1 h2 => by omega), rfl, by rw [Nat.sub_self, HA.out]⟩
    case round =>
      obtain ⟨k, k1, k2, hcont, rfl, rfl⟩ := hrel
      obtain ⟨a1, a2⟩ := acc_part HM.out (by omega) k1 k2 hcont.out
      by_cases hlt : k < 4
      · have hks : k < s.size := by omega
        have HB := Lib.hid (byteV_get s k hks)
        have hbk := byteV_lt s.data.toList k
        rw [HB.out] at hbk
        have hnx : Hid (accB s.data.toList (k + 1 - 1) = accB s.data.toList (k - 1) * 64 + ((s[k]'hks).toNat : Int) - 128) := by
          obtain ⟨m, rfl⟩ : ∃ m, k = m + 1 := ⟨k - 1, by omega⟩
          rw [← HB.out]; exact Lib.hid rfl
        by_cases hd : 128 ≤ ((s[k]'hks).toNat : Int) ∧ ((s[k]'hks).toNat : Int) ≤ 191
        · obtain ⟨d1, d2⟩ := hd
          have hcont' : Hid (∀ j, 1 ≤ j → j < k + 1 → contB s.data.toList j) := Lib.hid (fun j j1 j2 => by
            by_cases hj : j < k
            · exact hcont.out j j1 hj
            · obtain rfl : j = k := by omega
              unfold contB; rw [HB.out]; exact ⟨d1, d2⟩)
          clear hcont
          generalize accB s.data.toList (k - 1) = N at a1 a2 hnx ⊢
          go_wp2_with fail
          go_round
          case rel => exact ⟨k + 1, by omega, by omega, hcont', by go_num, by rw [hnx.out]⟩
          case measure => simp [intOf]; omega
        · have HN := Lib.hid (no_cont (r := s.data.toList) (j := k) k1 (by rw [HM.out]; exact hlt) (by unfold contB; rw [HB.out]; exact hd))
          clear hnx hcont
          rcases (by omega : ((s[k]'hks).toNat : Int) < 128 ∨ 191 < ((s[k]'hks).toNat : Int)) with hd1 | hd1
          all_goals
            clear hd
            go_wp2_with fail
            go_ret2
            exact first_none HN.out (Below.refl _ _)
      · obtain rfl : k = 4 := by omega
        clear k1 k2 hlt
        by_cases hs1 : SignP (accB s.data.toList (4 - 1))
        · by_cases hs2 : (enc (accB s.data.toList (4 - 1))).length = 4
          · have HY := Lib.hid (yes_many HM.out (by omega) hl' hcont.out hs1 hs2)
            have hs3 : (((enc (accB s.data.toList (4 - 1))).length : Int) != 4) = false := by simp [hs2]
            have HS1 := Lib.hid hs1
            have HS2 := Lib.hid hs2
            clear hs1 hs2 hcont
            generalize accB s.data.toList (4 - 1) = N at a1 a2 HY hs3 HS1 HS2 ⊢
            go_wp2_with (first | (go_at_call 60; refine (sign_yes N _ HS1.out).mono ?_; rintro e w' ⟨rfl, rfl⟩) | (go_at_call 61; refine (bytes_any N _ HS1.out).mono ?_; rintro e w' ⟨rfl, rfl⟩))
            go_ret2
            exact first_some HS1.out HY.out (by rw [HS2.out]; rfl) ((Below.refl _ _).alloc (Nat.le_refl _) _)
          · have HN := Lib.hid (no_len HM.out hs2)
            have hs3 : (((enc (accB s.data.toList (4 - 1))).length : Int) != 4) = true := bne_iff_ne.mpr (by omega)
            have HS1 := Lib.hid hs1
            clear hs1 hs2 hcont
            generalize accB s.data.toList (4 - 1) = N at a1 a2 hs3 HS1 ⊢
            go_wp2_with (first | (go_at_call 60; refine (sign_yes N _ HS1.out).mono ?_; rintro e w' ⟨rfl, rfl⟩) | (go_at_call 61; refine (bytes_any N _ HS1.out).mono ?_; rintro e w' ⟨rfl, rfl⟩))
            go_ret2
            exact first_none HN.out ((Below.refl _ _).alloc (Nat.le_refl _) _)
        · have HN := Lib.hid (no_sign HM.out hs1)
          have HS1 := Lib.hid hs1
          clear hs1 hcont
          generalize accB s.data.toList (4 - 1) = N at a1 a2 HS1 ⊢
          go_wp2_with (go_at_call 60; refine (sign_no N _ HS1.out).mono ?_; rintro e w' ⟨rfl, rfl⟩)
          go_ret2
          exact first_none HN.out (Below.refl _ _)
set_option maxRecDepth 100000 in
set_option maxHeartbeats 3200000 in
theorem first_ce (s : ByteArray) (w : World) (h0 : 0 < s.size) (hs : s.size ≤ 9223372036854775807) (lo : 248 ≤ ((s[0]'h0).toNat : Int)) : Calls Tryd.prog 33 #[.string s] w (FirstRes s.data.toList w) := by
  have hne : s.data.toList ≠ [] := by intro h; have : s.size = 0 := by show s.data.size = 0; rw [← Array.length_toList, h]; rfl
                                      omega
  have hlen : s.data.toList.length = s.size := rfl
  have e0 := byteV_get s 0 h0
  have hb0 := byteV_lt s.data.toList 0
  rw [e0] at hb0
  have HN := Lib.hid (no_many (r := s.data.toList) (by rw [e0]; unfold manyB; rw [if_neg (by omega), if_neg (by omega), if_neg (by omega), if_neg (by omega)]))
  clear hlen e0 hne
  go_enter Tryd.func33, Tryd.ntmps33
  go_wp2_with fail
  go_ret2
  exact first_none HN.out (Below.refl _ _)
theorem first_any (s : ByteArray) (w : World) (h0 : 0 < s.size) (hs : s.size ≤ 9223372036854775807) : Calls Tryd.prog 33 #[.string s] w (FirstRes s.data.toList w) := by
  rcases Int.lt_or_le ((s[0]'h0).toNat : Int) 128 with a | a
  · exact first_c1 s w h0 hs a
  rcases Int.lt_or_le ((s[0]'h0).toNat : Int) 192 with b | b
  · exact first_c0 s w h0 hs a b
  rcases Int.lt_or_le ((s[0]'h0).toNat : Int) 224 with c | c
  · exact first_c2 s w h0 hs b c
  rcases Int.lt_or_le ((s[0]'h0).toNat : Int) 240 with d | d
  · exact first_c3 s w h0 hs c d
  rcases Int.lt_or_le ((s[0]'h0).toNat : Int) 248 with e | e
  · exact first_c4 s w h0 hs d e
  · exact first_ce s w h0 hs e
end Go.Proofs.YtbchkhjkajagfaaDoor
namespace Go.Proofs.YtbchkhjkajagfaaDoor
open Go Go.RowKit
theorem infoI : (Tryd.prog.info? 3).map (fun i => (i.zero, i.size, i.bytes)) = some (some (.int .i64 0), 1, 8) := by kernel_rfl
theorem textB_ge (l : List Int) : l.length ≤ (textB l).length := by
  induction l with
  | nil => simp
  | cons n l ih =>
    have := (enc_pos n).1
    rw [textB_cons, List.length_append, List.length_cons]
    omega
theorem drop_bytes (s : ByteArray) (p : Nat) : (s.extract p s.size).data.toList = s.data.toList.drop p := by
  rw [ByteArray.data_extract, Array.toList_extract]
  have : s.size = s.data.toList.length := rfl
  rw [List.extract_eq_take_drop]
  rw [this, List.take_of_length_le (by rw [List.length_drop]; exact Nat.le_refl _)]
/-- where k signs have been read: what stands there -/
theorem read_at {bs : List UInt8} {l : List Int} {r : List UInt8} (h : Read bs l r) (k : Nat) : bs.drop (textB (l.take k)).length = textB (l.drop k) ++ r := by
  obtain ⟨rfl, _, _⟩ := h
  have e : textB l = textB (l.take k) ++ textB (l.drop k) := by rw [← textB_append, List.take_append_drop]
  rw [e, List.append_assoc, List.drop_left]
theorem read_next {bs : List UInt8} {l : List Int} {r : List UInt8} (_h : Read bs l r) {k : Nat} (hk : k < l.length) : (textB (l.take (k + 1))).length = (textB (l.take k)).length + (enc (l[k]'hk)).length := by
  rw [List.take_succ_eq_append_getElem hk, textB_snoc, List.length_append]
theorem read_le {bs : List UInt8} {l : List Int} {r : List UInt8} (h : Read bs l r) (k : Nat) : (textB (l.take k)).length ≤ bs.length := by
  have h' := h
  obtain ⟨rfl, _, _⟩ := h'
  have e : textB l = textB (l.take k) ++ textB (l.drop k) := by rw [← textB_append, List.take_append_drop]
  rw [e]; simp only [List.length_append]; omega
theorem read_len {bs : List UInt8} {l : List Int} {r : List UInt8} (h : Read bs l r) : l.length ≤ bs.length := by
  obtain ⟨rfl, _, _⟩ := h
  have := textB_ge l
  rw [List.length_append]; omega
/-- a sign stands there -/
theorem read_here {bs : List UInt8} {l : List Int} {r : List UInt8} (h : Read bs l r) {k : Nat} (hk : k < l.length) : SignP (l[k]'hk) ∧ enc (l[k]'hk) <+: bs.drop (textB (l.take k)).length ∧ (textB (l.take k)).length < bs.length := by
  have h1 := read_at h k
  have e : l.drop k = l[k] :: l.drop (k + 1) := List.drop_eq_getElem_cons hk
  refine ⟨h.2.1 _ (List.getElem_mem hk), ?_, ?_⟩
  · rw [h1, e, textB_cons, List.append_assoc]; exact ⟨_, rfl⟩
  · have h2 := congrArg List.length h1
    rw [List.length_drop, e, textB_cons, List.length_append, List.length_append] at h2
    have := (enc_pos (l[k])).1
    omega
/-- none stands there, at the end of the signs -/
theorem read_end {bs : List UInt8} {l : List Int} {r : List UInt8} (h : Read bs l r) : bs.drop (textB (l.take l.length)).length = r := by
  rw [read_at h l.length, List.drop_length]; rfl
theorem sign_one {m n : Int} {r : List UInt8} (hm : SignP m) (hn : SignP n) (h1 : enc m <+: r) (h2 : enc n <+: r) : m = n := by
  obtain ⟨x, rfl⟩ := h1
  obtain ⟨y, hy⟩ := h2
  exact (enc_free hn hm hy).symm
def intsV (l : List Int) : List Value := l.map (Value.int .i64)
theorem intsV_snoc (l : List Int) (n : Int) : intsV (l ++ [n]) = intsV l ++ [.int .i64 n] := by unfold intsV; rw [List.map_append]; rfl
theorem intsV_take {l : List Int} {k : Nat} (hk : k < l.length) : intsV (l.take (k + 1)) = intsV (l.take k) ++ [.int .i64 (l[k]'hk)] := by rw [List.take_succ_eq_append_getElem hk, intsV_snoc]
def SignsRes (l : List Int) (ok : Bool) (w : World) (e : Ending) (w' : World) : Prop :=
  ∃ a cap, e = .returned (.tuple #[.slice a l.length cap, .bool ok]) ∧ w'.ownsRow w.heap.size 3 1 (.slice a l.length cap) l.length (intsV l) ∧ Below w.heap.size w w'
theorem first_here (s : ByteArray) (l : List Int) (r : List UInt8) (w : World) (h : Read s.data.toList l r) (hs : s.size ≤ 1048576) (k q : Nat) (hk : k < l.length) (hq : q = (textB (l.take k)).length) :
    Calls Tryd.prog 33 #[.string (s.extract q s.size)] w fun e w' => e = .returned (.tuple #[.int .i64 (l[k]'hk), .int .i64 (enc (l[k]'hk)).length]) ∧ Below w.heap.size w w' := by
  obtain ⟨h1, h2, h3⟩ := read_here h hk
  rw [← hq] at h2 h3
  have hlen : s.data.toList.length = s.size := rfl
  refine (first_any _ w (by rw [ByteArray.size_extract]; omega) (by rw [ByteArray.size_extract]; omega)).mono ?_
  rintro e w' ⟨⟨n, n1, n2, rfl⟩ | ⟨n1, rfl⟩, hb⟩
  · rw [drop_bytes] at n2
    rw [sign_one n1 h1 n2 h2]
    exact ⟨rfl, hb⟩
  · rw [drop_bytes] at n1
    exact absurd h2 (n1 _ h1)
theorem first_nowhere (s : ByteArray) (l : List Int) (r : List UInt8) (w : World) (h : Read s.data.toList l r) (hs : s.size ≤ 1048576) (q : Nat) (hq : q = (textB (l.take l.length)).length) (hlt : q < s.size) :
    Calls Tryd.prog 33 #[.string (s.extract q s.size)] w fun e w' => e = .returned (.tuple #[.int .i64 (-1), .int .i64 0]) ∧ Below w.heap.size w w' := by
  have hr := read_end h
  rw [← hq] at hr
  refine (first_any _ w (by rw [ByteArray.size_extract]; omega) (by rw [ByteArray.size_extract]; omega)).mono ?_
  rintro e w' ⟨⟨n, n1, n2, rfl⟩ | ⟨n1, rfl⟩, hb⟩
  · rw [drop_bytes, hr] at n2
    exact absurd n2 (h.2.2 n n1)
  · exact ⟨rfl, hb⟩
set_option maxHeartbeats 1600000 in
theorem signs_any (s : ByteArray) (l : List Int) (r : List UInt8) (w : World) (h : Read s.data.toList l r) (hs : s.size ≤ 1048576) : Calls Tryd.prog 9 #[.string s] w (SignsRes l r.isEmpty w) := by
  obtain ⟨i0, hi, hz0, hz1, hz2⟩ := info_parts infoI
  have HR := Lib.hid h
  have hll : l.length ≤ s.size := read_len h
  clear h
  go_enter Tryd.func9, Tryd.ntmps9
  go_wp2_with fail
  go_loopw [4, 5] (fun v p wr => ∃ (k q : Nat) (a : Option Addr) (c : Nat), k ≤ l.length ∧ q ≤ s.size ∧ Hid (q = (textB (l.take k)).length) ∧ p = .int .i64 q ∧ v = .slice a k c ∧ wr.ownsRow w.heap.size 3 1 (.slice a k c) k (intsV (l.take k)) ∧ Below w.heap.size w wr)
    (fun _ p _ => s.size - (intOf p).toNat)
  case atStart => exact ⟨0, 0, none, 0, by omega, by omega, Lib.hid rfl, rfl, rfl, World.ownsRow_nil _ _ _ _, Below.refl _ _⟩
  case round =>
    obtain ⟨k, q, a, c, hk, hq, HQ, rfl, rfl, hown, hb⟩ := hrel
    have hsz := hb.size
    by_cases hlt : q < s.size
    · by_cases hk' : k < l.length
      · have HF := Lib.hid (fun w => first_here s l r w HR.out hs k q hk' HQ.out)
        have HN : Hid (q + (enc (l[k]'hk')).length = (textB (l.take (k + 1))).length) := Lib.hid (by rw [read_next HR.out hk', ← HQ.out])
        have hle : q + (enc (l[k]'hk')).length ≤ s.size := by have := read_le HR.out (k + 1); rw [← HN.out] at this; exact this
        have HI := Lib.hid (intsV_take hk')
        have hpos := enc_pos (l[k]'hk')
        generalize l[k]'hk' = n at HF HN hle HI hpos
        have hne : (((enc n).length : Int) == 0) = false := beq_eq_false_iff_ne.mpr (by omega)
        go_wp2_with fail
        refine (HF.out _).mono ?_
        rintro e w2 ⟨rfl, hb2⟩
        have ho2 := ownsRow_below hown hb2
        have hs2 := hb2.size
        have hb' := hb.trans (hb2.mono hsz)
        clear hb2 hown hb
        go_wp2_with (at_builtin; refine wpList_append_own _ rfl (.tmp 22) (.tmp 24) 23 rfl w.heap.size 3 i0 (.int .i64 0) 1 8 Tryd.underlying23 hi hz0 hz1 hz2 rfl (by decide) _ _ _ rfl (ho2.alloc _) ⟨w2.heap.size, 0, none⟩ 1 1 [.int .i64 n] rfl rfl (cell_one_new _ _ _) (by simp [Value.oneCell']) (by unfold maxLen; omega) (by omega) (by simp; omega) ?_; intro v' w4 oa ga _; obtain ⟨a', c', rfl⟩ := own_form oa; have hb4 : Below w.heap.size w w4 := (hb'.alloc (by omega) _).grown ga (by simp; omega) (fun g hg => (ho2.lt g hg).1); clear ga)
        rw [← HI.out] at oa
        go_roundw
        case rel => exact ⟨k + 1, q + (enc n).length, a', c', by omega, hle, HN, by go_num, rfl, oa, hb4⟩
        case measure => simp [intOf]; omega
      · obtain rfl : k = l.length := by omega
        have HF := Lib.hid (fun w => first_nowhere s l r w HR.out hs q HQ.out hlt)
        have hr : r.isEmpty = false := by
          have h1 := read_end HR.out
          rw [← HQ.out] at h1
          cases hr : r with
          | nil =>
            have h2 := congrArg List.length h1
            rw [List.length_drop, hr] at h2
            have : s.data.toList.length = s.size := rfl
            simp at h2
            omega
          | cons => rfl
        go_wp2_with fail
        refine (HF.out _).mono ?_
        rintro e w2 ⟨rfl, hb2⟩
        have ho2 := ownsRow_below hown hb2
        have hb' := hb.trans (hb2.mono hsz)
        clear hb2 hown hb
        go_wp2_with fail
        go_ret2
        rw [hr]
        exact ⟨a, c, rfl, by simpa using ho2, hb'⟩
    · have hqs : q = s.size := by omega
      have hr : r = [] := by
        have h1 := congrArg List.length (read_at HR.out k)
        rw [← HQ.out, List.length_drop, List.length_append] at h1
        have : s.data.toList.length = s.size := rfl
        exact List.eq_nil_of_length_eq_zero (by omega)
      have hkl : k = l.length := by
        rcases Nat.lt_or_ge k l.length with h1 | h1
        · have h2 := (read_here HR.out h1).2.2
          rw [← HQ.out] at h2
          have : s.data.toList.length = s.size := rfl
          omega
        · omega
      subst hkl hr
      clear hqs
      go_wp2_with fail
      go_ret2
      exact ⟨a, c, rfl, by simpa using hown, hb⟩
end Go.Proofs.YtbchkhjkajagfaaDoor
