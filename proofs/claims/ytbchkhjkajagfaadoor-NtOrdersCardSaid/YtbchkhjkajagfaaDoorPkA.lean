/- Texts of this seat put together: Open Mem SumPlain BigPlain VtPlain TgPlain RowOf RegLast. -/
import Derived.Test.YtbchkhjkajagfaaDoorRows
import Derived.WalkKit
import Derived.ProofKit
import Derived.OpenShut
import Derived.Below
import Derived.Deep.QuietTactic
import Derived.Shelf.Strings.FuncGrows
import Derived.Lib.ParseIntBTie
import Derived.Lib.ItoaMem
import Derived.Lib.SplitLaws
import Derived.Lib.IndexBytes
import Derived.Maps.AppendAt
import Derived.Deep.AppendLies
import Derived.RegionTactic
import Derived.OwnWalk
import Derived.Deep.RegionHeld3
namespace Go.Proofs.YtbchkhjkajagfaaDoor
open Go.ChangeShapes Go.WideShapes Go.ChangeAt Go.RowKit
/-- a slice of integers that came in: nil; or a row of cap cells, of which the first len are its elements -/
def RowAt (k : IntKind) (w : World) (a : Option Addr) (len cap : Nat) (zs : List Int) : Prop :=
  (a = none ∧ len = 0 ∧ cap = 0 ∧ zs = []) ∨
  ∃ x, a = some x ∧ len ≤ cap ∧ cap ≤ maxLen ∧ zs.length = cap ∧ (∀ i, i < zs.length → w.cell? (x.add i) = some (.int k (zs.getD i 0))) ∧ ∀ n ∈ zs, (Lit.int k n).wf = true
theorem open_arr {H : Type} {enc : TypeId × Value → H} {P : Program} {w : World} {base b0 n : Nat} {spare : Nat → Bool} {held : Bool} {r : Reach} {t e : TypeId} {k : IntKind} {v : Value} {d : DataW H} {ps : List MemPlace}
    (ht : P.underlying t = some (.array n e)) (he : P.underlying e = some (.int k)) (ce : P.cellsOf e = 1) (ct : P.cellsOf t = n)
    (hval : Value.okWide P w r b0 t v) (hd : DataW.Trod enc P w base spare held t v d ps) :
    ∃ zs : List Int, zs.length = n ∧ v = .agg (zs.map (Value.int k)).toArray ∧ ∀ z ∈ zs, (Lit.int k z).wf = true := by
  obtain ⟨cs, rfl, hsz, _⟩ : ∃ cs, v = .agg cs ∧ cs.size = P.cellsOf t ∧ Row.okWide P w r b0 t cs := by
    simpa [Value.okWide, ht] using hval
  obtain ⟨fuel, hf⟩ := hd
  obtain ⟨xs, m, _, _, _, hn, hel⟩ := DataW.trod_array ht hf
  rw [ct] at hsz
  obtain ⟨l⟩ := cs
  simp only [List.size_toArray] at hsz
  have each : ∀ i, i < n → ∃ z, l[i]? = some (.int k z) ∧ (Lit.int k z).wf = true := by
    intro i hi
    have h1 := hel i hi
    rw [ce, Nat.mul_one] at h1
    obtain ⟨y, hy⟩ : ∃ y, xs[i]? = some y := ⟨xs[i]'(by omega), List.getElem?_eq_getElem (by omega)⟩
    rw [hy] at h1
    obtain ⟨z, e1, _, e3⟩ := DataW.trod_int he h1
    refine ⟨z, ?_, e3⟩
    have e4 : l[i]? = ((l.drop i).take 1)[0]? := by rw [List.getElem?_take_of_lt (by omega), List.getElem?_drop]; rfl
    rw [e4]
    simp only [Value.cells] at e1
    rw [e1]; rfl
  refine ⟨l.map intOf, by simpa using hsz, ?_, ?_⟩
  · congr 2
    rw [List.map_map]
    refine List.ext_getElem? fun i => ?_
    rw [List.getElem?_map]
    by_cases hi : i < n
    · obtain ⟨z, hz, _⟩ := each i hi
      rw [hz]; rfl
    · rw [List.getElem?_eq_none (by omega)]; rfl
  · intro z hz
    obtain ⟨v, hv, rfl⟩ := List.mem_map.1 hz
    obtain ⟨i, hi, rfl⟩ := List.getElem_of_mem hv
    obtain ⟨z, hz, hw⟩ := each i (by omega)
    rw [List.getElem?_eq_getElem hi] at hz
    rw [Option.some.inj hz]
    exact hw
theorem list_three {α : Type} (l : List α) (h : l.length = 3) : ∃ a b c, l = [a, b, c] := by
  match l, h with
  | [a, b, c], _ => exact ⟨a, b, c, rfl⟩
theorem list_two {α : Type} (l : List α) (h : l.length = 2) : ∃ a b, l = [a, b] := by
  match l, h with
  | [a, b], _ => exact ⟨a, b, rfl⟩
end Go.Proofs.YtbchkhjkajagfaaDoor
namespace Go.Proofs.YtbchkhjkajagfaaDoor
open Go Go.RowKit
theorem below_drewN {B : Nat} {a w : World} (h : Below B a w) (n : Nat) : Below B a (w.drewN n) := ⟨h.os, h.tape, h.output, h.size, h.block⟩
theorem below_grownBy {w w' : World} (h : Below w.heap.size w w') (row : Option Nat) : w.grownBy w' row := ⟨h.os, h.tape, h.output, h.size, fun k hk _ => h.block k hk⟩
theorem ownsRow_below {w w' : World} {B : Nat} {e : TypeId} {s : Nat} {v : Value} {n : Nat} {xs : List Value} (h : w.ownsRow B e s v n xs) (hb : Below w.heap.size w w') : w'.ownsRow B e s v n xs := by
  refine h.kept (below_grownBy hb none) ?_
  cases hv : v.ownBlock with
  | none => exact .inl rfl
  | some g => exact .inr (fun e => by cases e)
theorem ownsRow_base {w : World} {B B' : Nat} {e : TypeId} {s : Nat} {v : Value} {n : Nat} {xs : List Value} (h : w.ownsRow B e s v n xs) (hB : B' ≤ B) : w.ownsRow B' e s v n xs := by
  obtain ⟨h1, (h2 | ⟨g, cap, cur, h3, h4, h5⟩)⟩ := h
  · exact ⟨h1, .inl h2⟩
  · exact ⟨h1, .inr ⟨g, cap, cur, h3, Nat.le_trans hB h4, h5⟩⟩
theorem own_zero {w : World} {B : Nat} {T : TypeId} {v : Value} {xs : List Value} (h : w.ownsRow B T 1 v 0 xs) : ∃ (a : Option Addr) (cap : Nat), v = .slice a 0 cap := by
  obtain ⟨_, (⟨rfl, _⟩ | ⟨g, cap, _, rfl, _⟩)⟩ := h
  · exact ⟨none, 0, rfl⟩
  · exact ⟨_, cap, rfl⟩
theorem own_form {w : World} {B : Nat} {T : TypeId} {v : Value} {n : Nat} {xs : List Value} (h : w.ownsRow B T 1 v n xs) : ∃ (a : Option Addr) (cap : Nat), v = .slice a n cap := by
  obtain ⟨_, (⟨rfl, rfl⟩ | ⟨g, cap, _, rfl, _⟩)⟩ := h
  · exact ⟨none, 0, rfl⟩
  · exact ⟨_, cap, rfl⟩
theorem cell_below {w w' : World} {a : Addr} {v : Value} (h : w.cell? a = some v) (hb : Below w.heap.size w w') : w'.cell? a = some v := (hb.cell (block_lt_of_cell h)).trans h
end Go.Proofs.YtbchkhjkajagfaaDoor
namespace Go.Proofs.YtbchkhjkajagfaaDoor
open Go Go.RowKit
/-- it is one of 64 bits -/
def fits (n : Int) : Bool := decide (-9223372036854775808 ≤ n) && decide (n ≤ 9223372036854775807)
theorem fits_iff (n : Int) : fits n = true ↔ -9223372036854775808 ≤ n ∧ n ≤ 9223372036854775807 := by simp [fits]
theorem fits_not (n : Int) : fits n = false ↔ n < -9223372036854775808 ∨ 9223372036854775807 < n := by
  rw [← Bool.not_eq_true, fits_iff]; omega
theorem wrap64_fits (n : Int) (h : fits n = true) : wrap64 n = n := IntWalk.wrap64_in _ ((fits_iff n).1 h)
theorem add_fits (a b : Int) (ha : -9223372036854775808 ≤ a) (ha' : a ≤ 9223372036854775807) (hb : -9223372036854775808 ≤ b) (hb' : b ≤ 9223372036854775807) :
    (decide (a < wrap64 (a + b)) == decide (0 < b)) = fits (a + b) := by
  rw [Bool.eq_iff_iff, fits_iff]
  simp only [beq_iff_eq, decide_eq_decide]
  unfold wrap64
  omega
theorem sub_fits (a b : Int) (ha : -9223372036854775808 ≤ a) (ha' : a ≤ 9223372036854775807) (hb : -9223372036854775808 ≤ b) (hb' : b ≤ 9223372036854775807) :
    (decide (wrap64 (a - b) < a) == decide (0 < b)) = fits (a - b) := by
  rw [Bool.eq_iff_iff, fits_iff]
  simp only [beq_iff_eq, decide_eq_decide]
  unfold wrap64
  omega
/-- the size, without the sign -/
def szV (a : Int) : Int := if a < 0 then -a else a
theorem szV_bd (a : Int) (ha : -9223372036854775808 ≤ a) (ha' : a ≤ 9223372036854775807) : 0 ≤ szV a ∧ szV a ≤ 9223372036854775808 := by
  unfold szV; split <;> omega
theorem szV_neg (a : Int) (ha : -9223372036854775808 ≤ a) (h : a < 0) : IntKind.u64.wrap (-IntKind.u64.wrap a) = szV a := by
  unfold szV; rw [if_pos h, IntKind.wrap_u64, IntKind.wrap_u64]; omega
theorem szV_pos (a : Int) (h : 0 ≤ a) : a = szV a := by
  unfold szV; rw [if_neg (by omega)]
/-- the product of two sizes, in two words -/
def hiV (x y : Int) : Int := x * y / 18446744073709551616
def loV (x y : Int) : Int := x * y % 18446744073709551616
theorem hilo (p m : Int) (h0 : 0 ≤ p) (hm : m < 18446744073709551616) : (p / 18446744073709551616 = 0 ∧ p % 18446744073709551616 ≤ m) ↔ p ≤ m := by omega
theorem mul_fits_same (a b : Int) (h : a < 0 ↔ b < 0) :
    (hiV (szV a) (szV b) == 0 && decide (loV (szV a) (szV b) ≤ 9223372036854775807)) = fits (a * b) := by
  have e : szV a * szV b = a * b := by
    unfold szV
    by_cases h1 : a < 0
    · rw [if_pos h1, if_pos (h.1 h1), Int.neg_mul_neg]
    · rw [if_neg h1, if_neg (fun hb => h1 (h.2 hb))]
  have h0 : 0 ≤ szV a * szV b := Int.mul_nonneg (by unfold szV; split <;> omega) (by unfold szV; split <;> omega)
  rw [Bool.eq_iff_iff, fits_iff]
  unfold hiV loV
  simp only [Bool.and_eq_true, beq_iff_eq, decide_eq_true_eq]
  rw [hilo _ _ h0 (by omega), e]
  rw [e] at h0
  omega
theorem mul_fits_diff (a b : Int) (h : ¬(a < 0 ↔ b < 0)) :
    (hiV (szV a) (szV b) == 0 && decide (loV (szV a) (szV b) ≤ 9223372036854775808)) = fits (a * b) := by
  have e : szV a * szV b = -(a * b) := by
    unfold szV
    by_cases h1 : a < 0
    · by_cases h2 : b < 0
      · exact absurd (by simp [h1, h2]) h
      · rw [if_pos h1, if_neg h2, Int.neg_mul]
    · by_cases h2 : b < 0
      · rw [if_neg h1, if_pos h2, Int.mul_neg]
      · exact absurd (by simp [h1, h2]) h
  have h0 : 0 ≤ szV a * szV b := Int.mul_nonneg (by unfold szV; split <;> omega) (by unfold szV; split <;> omega)
  rw [Bool.eq_iff_iff, fits_iff]
  unfold hiV loV
  simp only [Bool.and_eq_true, beq_iff_eq, decide_eq_true_eq]
  rw [hilo _ _ h0 (by omega), e]
  rw [e] at h0
  omega
/-- what comes out of all, one after the other -/
def foldV (op : Int → Int → Int) : List Int → Int → Option Int
  | [], out => some out
  | n :: l, out => if fits (op out n) then foldV op l (op out n) else none
/-- what is told of it: the number, the code -/
def oN (o : Option Int) : Int := o.getD 0
def oE (o : Option Int) : Int := if o = none then 9 else 0
theorem oN_some (n : Int) : oN (some n) = n := rfl
theorem oE_some (n : Int) : oE (some n) = 0 := rfl
theorem foldV_cons (op : Int → Int → Int) (n : Int) (l : List Int) (out : Int) (h : fits (op out n) = true) : foldV op (n :: l) out = foldV op l (op out n) := by
  rw [foldV, if_pos h]
theorem foldV_none (op : Int → Int → Int) (n : Int) (l : List Int) (out : Int) (h : fits (op out n) = false) : foldV op (n :: l) out = none := by
  rw [foldV, if_neg (by simp [h])]
theorem drop_cons (zs : List Int) (k : Nat) (h : k < zs.length) : zs.drop k = zs[k]?.getD 0 :: zs.drop (k + 1) := by
  rw [List.drop_eq_getElem_cons h]; simp [h]
theorem fold_add2_ok (a b : Int) (ha : fits a = true) (h : fits (a + b) = true) : foldV (· + ·) [a, b] 0 = some (a + b) := by
  simp [foldV, ha, h]
theorem fold_add2_none (a b : Int) (ha : fits a = true) (h : fits (a + b) = false) : foldV (· + ·) [a, b] 0 = none := by
  simp [foldV, ha, h]
theorem fold_mul2_ok (a b : Int) (ha : fits a = true) (h : fits (a * b) = true) : foldV (· * ·) [a, b] 1 = some (a * b) := by
  simp [foldV, ha, h]
theorem fold_mul2_none (a b : Int) (ha : fits a = true) (h : fits (a * b) = false) : foldV (· * ·) [a, b] 1 = none := by
  simp [foldV, ha, h]
theorem fits_two (a b : Int) (ha : fits a = true) (hb : fits b = true) : ∀ j, j < [a, b].length → fits ([a, b][j]?.getD 0) = true := by
  intro j hj
  match j, hj with
  | 0, _ => exact ha
  | 1, _ => exact hb
theorem cells_two64 (w : World) (x y : Int) (T : TypeId) : ∀ j, j < [x, y].length → (w.alloc (.cells #[.int .i64 x, .int .i64 y] T)).cell? ⟨w.heap.size, 0 + j, none⟩ = some (.int .i64 ([x, y][j]?.getD 0)) := by
  intro j hj
  rw [World.cell?_alloc_mark]
  match j, hj with
  | 0, _ => rfl
  | 1, _ => rfl
end Go.Proofs.YtbchkhjkajagfaaDoor
namespace Go.Proofs.YtbchkhjkajagfaaDoor
open Go Go.RowKit
/-- the value of digits, the lowest first -/
def val : List Int → Int
  | [] => 0
  | d :: l => d + 10 * val l
/-- ten, so often -/
def ten : Nat → Int
  | 0 => 1
  | n + 1 => 10 * ten n
def Good (l : List Int) : Prop := ∀ d ∈ l, 0 ≤ d ∧ d ≤ 9
/-- none of them a nought ahead -/
def Norm (l : List Int) : Prop := l = [] ∨ ∃ m d, l = m ++ [d] ∧ d ≠ 0
theorem ten_succ (n : Nat) : ten (n + 1) = 10 * ten n := rfl
theorem ten_pos (n : Nat) : 1 ≤ ten n := by
  induction n with
  | zero => exact Int.le_refl _
  | succ n ih => rw [ten_succ]; omega
theorem ten_mono {m n : Nat} (h : m ≤ n) : ten m ≤ ten n := by
  induction n with
  | zero => have : m = 0 := by omega
            subst this; exact Int.le_refl _
  | succ n ih =>
    by_cases e : m = n + 1
    · subst e; exact Int.le_refl _
    · have := ih (by omega)
      have := ten_pos n
      rw [ten_succ]; omega
theorem ten_add (m n : Nat) : ten (m + n) = ten m * ten n := by
  induction m with
  | zero => simp [ten]
  | succ m ih => rw [Nat.succ_add, ten_succ, ten_succ, ih, Int.mul_assoc]
theorem val_append (l m : List Int) : val (l ++ m) = val l + ten l.length * val m := by
  induction l with
  | nil => simp [val, ten]
  | cons d l ih =>
    simp only [List.cons_append, val, List.length_cons, ten_succ]
    rw [ih, Int.mul_add, Int.mul_assoc]; omega
theorem val_snoc (l : List Int) (d : Int) : val (l ++ [d]) = val l + ten l.length * d := by
  rw [val_append]; simp [val]
theorem good_nil : Good [] := fun _ h => by cases h
theorem good_snoc {l : List Int} {d : Int} (h : Good l) (h0 : 0 ≤ d) (h9 : d ≤ 9) : Good (l ++ [d]) := by
  intro x hx
  rcases List.mem_append.1 hx with hx | hx
  · exact h x hx
  · simp at hx; subst hx; exact ⟨h0, h9⟩
theorem good_sub {l m : List Int} (h : Good l) (hs : ∀ x ∈ m, x ∈ l) : Good m := fun x hx => h x (hs x hx)
theorem good_drop {l : List Int} (h : Good l) (k : Nat) : Good (l.drop k) := good_sub h fun _ hx => List.mem_of_mem_drop hx
theorem val_nonneg {l : List Int} (h : Good l) : 0 ≤ val l := by
  induction l with
  | nil => exact Int.le_refl _
  | cons d l ih =>
    have h1 := h d (by simp)
    have h2 := ih (good_sub h fun x hx => by simp [hx])
    unfold val; omega
theorem val_lt {l : List Int} (h : Good l) : val l < ten l.length := by
  induction l with
  | nil => simp [val, ten]
  | cons d l ih =>
    have h1 := h d (by simp)
    have h2 := ih (good_sub h fun x hx => by simp [hx])
    simp only [val, List.length_cons, ten_succ]; omega
/-- without a nought ahead a number of n digits is at least 10 to the n - 1 -/
theorem val_ge {l : List Int} (h : Good l) (hn : Norm l) (hl : l ≠ []) : ten (l.length - 1) ≤ val l := by
  rcases hn with hn | ⟨m, d, rfl, hd⟩
  · exact absurd hn hl
  · have h1 := h d (by simp)
    have h2 := val_nonneg (good_sub h fun x (hx : x ∈ m) => by simp [hx])
    rw [val_snoc]
    simp only [List.length_append, List.length_cons, List.length_nil, Nat.zero_add, Nat.add_sub_cancel]
    have := Int.mul_le_mul_of_nonneg_left (show 1 ≤ d by omega) (show 0 ≤ ten m.length by have := ten_pos m.length; omega)
    omega
theorem len_le {l : List Int} {n : Nat} (h : Good l) (hn : Norm l) (hv : val l < ten n) : l.length ≤ n := by
  by_cases hl : l = []
  · subst hl; simp
  · have h1 := val_ge h hn hl
    rcases Nat.lt_or_ge n l.length with hc | hc
    · have := ten_mono (show n ≤ l.length - 1 by omega)
      omega
    · exact hc
theorem val_nil {l : List Int} (h : Good l) (hn : Norm l) (hv : val l = 0) : l = [] := by
  by_cases hl : l = []
  · exact hl
  · have h1 := val_ge h hn hl
    have := ten_pos (l.length - 1)
    omega
theorem len_lt {a b : List Int} (ha : Good a) (hb : Good b) (nb : Norm b) (h : a.length < b.length) : val a < val b := by
  have h1 := val_lt ha
  have h2 := val_ge hb nb (by intro e; subst e; simp at h)
  have := ten_mono (show a.length ≤ b.length - 1 by omega)
  omega
theorem val_drop (l : List Int) (k : Nat) (h : k < l.length) : val (l.drop k) = l[k]?.getD 0 + 10 * val (l.drop (k + 1)) := by
  rw [List.drop_eq_getElem_cons h]; simp [val, h]
theorem val_take_drop (l : List Int) (k : Nat) (h : k ≤ l.length) : val l = val (l.take k) + ten k * val (l.drop k) := by
  have := val_append (l.take k) (l.drop k)
  rw [List.take_append_drop, List.length_take, Nat.min_eq_left h] at this
  exact this
/-- the highest unlike digit tells the order -/
theorem val_first {a b : List Int} (ha : Good a) (hb : Good b) (hl : a.length = b.length) (i : Nat) (hi : i < a.length) (he : a.drop (i + 1) = b.drop (i + 1)) (hlt : a[i]?.getD 0 < b[i]?.getD 0) : val a < val b := by
  rw [val_take_drop a i (by omega), val_take_drop b i (by omega), val_drop a i hi, val_drop b i (by omega), he]
  have h1 := val_lt (good_sub ha fun x (hx : x ∈ a.take i) => List.mem_of_mem_take hx)
  have h2 := val_nonneg (good_sub hb fun x (hx : x ∈ b.take i) => List.mem_of_mem_take hx)
  rw [List.length_take, Nat.min_eq_left (by omega)] at h1
  have h3 : ten i * (a[i]?.getD 0 + 10 * val (b.drop (i + 1)) + 1) ≤ ten i * (b[i]?.getD 0 + 10 * val (b.drop (i + 1))) :=
    Int.mul_le_mul_of_nonneg_left (by omega) (by have := ten_pos i; omega)
  rw [Int.mul_add, Int.mul_one] at h3
  omega
theorem get_good {l : List Int} (h : Good l) (k : Nat) : 0 ≤ l[k]?.getD 0 ∧ l[k]?.getD 0 ≤ 9 := by
  rcases Nat.lt_or_ge k l.length with hk | hk
  · rw [List.getElem?_eq_getElem hk]; exact h _ (List.getElem_mem hk)
  · rw [List.getElem?_eq_none hk]; simp
theorem drop_same (a b : List Int) (i : Nat) (h : i < a.length) (h' : i < b.length) (he : a.drop (i + 1) = b.drop (i + 1)) (hx : a[i]?.getD 0 = b[i]?.getD 0) : a.drop i = b.drop i := by
  rw [List.drop_eq_getElem_cons h, List.drop_eq_getElem_cons h', he]
  simp [h, h'] at hx
  rw [hx]
/-- what is got, with the carry, one digit farther: the sum -/
theorem plus_step (o : List Int) (k : Nat) (c x y A B d c' : Int) (ho : o.length = k) (h : d + 10 * c' = c + x + y) :
    val (o ++ [d]) + ten (k + 1) * (c' + A + B) = val o + ten k * (c + (x + 10 * A) + (y + 10 * B)) := by
  rw [val_snoc, ho]
  have e1 : ten (k + 1) * (c' + A + B) = ten k * (10 * (c' + A + B)) := by rw [ten_succ, Int.mul_comm 10, Int.mul_assoc]
  rw [e1, Int.add_assoc, ← Int.mul_add]
  congr 2; omega
theorem minus_step (o : List Int) (k : Nat) (c x y A B d c' : Int) (ho : o.length = k) (h : d - 10 * c' = x - c - y) :
    val (o ++ [d]) + ten (k + 1) * (A - c' - B) = val o + ten k * (x + 10 * A - c - (y + 10 * B)) := by
  rw [val_snoc, ho]
  have e1 : ten (k + 1) * (A - c' - B) = ten k * (10 * (A - c' - B)) := by rw [ten_succ, Int.mul_comm 10, Int.mul_assoc]
  rw [e1, Int.add_assoc, ← Int.mul_add]
  congr 2; omega
/-- a difference that is none below 0 has no carry left -/
theorem minus_end (o : List Int) (k : Nat) (c B D : Int) (ho : o.length = k) (hg : Good o) (hc : 0 ≤ c) (hB : 0 ≤ B) (h : val o + ten k * (0 - c - B) = D) (hD : 0 ≤ D) : val o = D := by
  have h1 := val_lt hg
  rw [ho] at h1
  by_cases h0 : c + B = 0
  · have : (0 - c - B) = 0 := by omega
    rw [this, Int.mul_zero] at h; omega
  · have h2 : ten k * 1 ≤ ten k * (c + B) := Int.mul_le_mul_of_nonneg_left (by omega) (by have := ten_pos k; omega)
    have h3 : ten k * (0 - c - B) = -(ten k * (c + B)) := by rw [← Int.mul_neg]; congr 1; omega
    omega
end Go.Proofs.YtbchkhjkajagfaaDoor
namespace Go.Proofs.YtbchkhjkajagfaaDoor
open Go Go.RowKit
def isDig (c : UInt8) : Bool := decide (48 ≤ c.toNat) && decide (c.toNat ≤ 57)
def notDig (x : Nat) : Bool := decide (x < 48) || decide (57 < x)
def bodyT : List UInt8 → List UInt8
  | [] => []
  | c :: r => if c.toNat = 43 ∨ c.toNat = 45 then r else c :: r
def negT : List UInt8 → Bool
  | [] => false
  | c :: _ => decide (c.toNat = 45)
def magF (a : Nat) (l : List UInt8) : Nat := l.foldl (fun a c => a * 10 + (c.toNat - 48)) a
def isNum (l : List UInt8) : Bool := !(bodyT l).isEmpty && (bodyT l).all isDig
def numT (l : List UInt8) : Int := if negT l then -(magF 0 (bodyT l) : Int) else magF 0 (bodyT l)
/-- the number that is told, and the error -/
def nP (l : List UInt8) : Int := if isNum l && fits (numT l) then numT l else 0
def eP (l : List UInt8) : Int := if isNum l then (if fits (numT l) then 0 else 9) else 1
theorem magF_cons (a : Nat) (c : UInt8) (r : List UInt8) : magF a (c :: r) = magF (a * 10 + (c.toNat - 48)) r := by
  unfold magF; rw [List.foldl_cons]
theorem magF_ge (l : List UInt8) : ∀ a, a ≤ magF a l := by
  induction l with
  | nil => exact fun a => Nat.le_refl _
  | cons c r ih => intro a; rw [magF_cons]; have := ih (a * 10 + (c.toNat - 48)); omega
theorem magF_snoc (a : Nat) (l : List UInt8) (c : UInt8) : magF a (l ++ [c]) = magF a l * 10 + (c.toNat - 48) := by
  unfold magF; rw [List.foldl_append]; rfl
theorem isDig_iff (c : UInt8) : isDig c = true ↔ 48 ≤ c.toNat ∧ c.toNat ≤ 57 := by simp [isDig]
theorem parse_fold (M : Nat) (hM : 18446744073709551615 ≤ M) (hM' : M ≤ 18446744073709551615) (l : List UInt8) (h : l.all isDig = true) : ∀ acc, acc ≤ M →
    Lib.parseUintM M acc l = if magF acc l ≤ M then .ok (magF acc l) else .range := by
  induction l with
  | nil => intro acc ha; rw [show magF acc [] = acc from rfl, if_pos ha, Lib.parseUintM]
  | cons c r ih =>
    intro acc ha
    rw [List.all_cons, Bool.and_eq_true] at h
    have hc := (isDig_iff c).1 h.1
    have hm := magF_ge r (acc * 10 + (c.toNat - 48))
    rw [Lib.parseUintM, if_pos hc, magF_cons]
    by_cases h1 : 1844674407370955162 ≤ acc
    · rw [if_pos h1, if_neg (by omega)]
    · rw [if_neg h1]
      by_cases h2 : M < acc * 10 + (c.toNat - 48)
      · rw [if_pos h2, if_neg (by omega)]
      · rw [if_neg h2, ih h.2 _ (by omega)]
theorem parse_body (r : List UInt8) (h0 : r ≠ []) (h : r.all isDig = true) : Lib.parseUintB 64 r = if magF 0 r ≤ 18446744073709551615 then .ok (magF 0 r) else .range := by
  have e : (2 : Nat) ^ 64 - 1 = 18446744073709551615 := by decide
  unfold Lib.parseUintB
  rw [if_neg h0, e]
  exact parse_fold _ (Nat.le_refl _) (Nat.le_refl _) r h 0 (Nat.zero_le _)
/-- the library's parser, at digits behind a sign -/
theorem parse_num (l : List UInt8) (h : isNum l = true) : Lib.parseIntB 64 l = if fits (numT l) then .ok (numT l) else .range := by
  have e : (2 : Nat) ^ (64 - 1) = 9223372036854775808 := by decide
  unfold isNum at h
  rw [Bool.and_eq_true] at h
  obtain ⟨h1, h2⟩ := h
  have h0 : bodyT l ≠ [] := by intro hh; rw [hh] at h1; simp at h1
  have hb := parse_body _ h0 h2
  cases l with
  | nil => exact absurd rfl h0
  | cons c r =>
    have sl : ∀ u : Nat, magF 0 (bodyT (c :: r)) = u → numT (c :: r) = (u : Int) → Lib.signlessC 9223372036854775808 (if u ≤ 18446744073709551615 then .ok u else .range) = if fits (numT (c :: r)) then .ok (numT (c :: r)) else .range := by
      intro u _ hn
      rw [hn]
      by_cases hf : fits (u : Int) = true
      · have := (fits_iff _).1 hf
        rw [if_pos hf, if_pos (by omega)]
        show (if 9223372036854775808 ≤ u then _ else _) = _
        rw [if_neg (by omega)]
      · rw [if_neg hf]
        have hn : ¬ ((-9223372036854775808 : Int) ≤ u ∧ (u : Int) ≤ 9223372036854775807) := fun hh => hf ((fits_iff _).2 hh)
        by_cases hu : u ≤ 18446744073709551615
        · rw [if_pos hu]
          show (if 9223372036854775808 ≤ u then _ else _) = _
          rw [if_pos (by omega)]
        · rw [if_neg hu]; rfl
    have sg : ∀ u : Nat, magF 0 (bodyT (c :: r)) = u → numT (c :: r) = -(u : Int) → Lib.signedC 9223372036854775808 (if u ≤ 18446744073709551615 then .ok u else .range) = if fits (numT (c :: r)) then .ok (numT (c :: r)) else .range := by
      intro u _ hn
      rw [hn]
      by_cases hf : fits (-(u : Int)) = true
      · have := (fits_iff _).1 hf
        rw [if_pos hf, if_pos (by omega)]
        show (if 9223372036854775808 < u then _ else _) = _
        rw [if_neg (by omega)]
      · rw [if_neg hf]
        have hn : ¬ ((-9223372036854775808 : Int) ≤ -(u : Int) ∧ -(u : Int) ≤ 9223372036854775807) := fun hh => hf ((fits_iff _).2 hh)
        by_cases hu : u ≤ 18446744073709551615
        · rw [if_pos hu]
          show (if 9223372036854775808 < u then _ else _) = _
          rw [if_pos (by omega)]
        · rw [if_neg hu]; rfl
    by_cases h43 : c.toNat = 43
    · obtain rfl : c = 43 := UInt8.toNat_inj.1 h43
      rw [Lib.parseIntB_plus, e]
      have hbt : bodyT (43 :: r) = r := rfl
      rw [hbt] at hb
      rw [hb]
      exact sl _ (by rw [hbt]) rfl
    by_cases h45 : c.toNat = 45
    · obtain rfl : c = 45 := UInt8.toNat_inj.1 h45
      rw [Lib.parseIntB_minus, e]
      have hbt : bodyT (45 :: r) = r := rfl
      rw [hbt] at hb
      rw [hb]
      exact sg _ (by rw [hbt]) rfl
    · rw [Lib.parseIntB_plain 64 c r h43 h45, e]
      have hbt : bodyT (c :: r) = c :: r := by show (if c.toNat = 43 ∨ c.toNat = 45 then r else c :: r) = _; rw [if_neg (by omega)]
      rw [hbt] at hb
      rw [hb]
      refine sl _ (by rw [hbt]) ?_
      unfold numT
      rw [hbt, show negT (c :: r) = decide (c.toNat = 45) from rfl, decide_eq_false h45]; rfl
theorem notDig_iff (x : Nat) : notDig x = true ↔ ¬ (48 ≤ x ∧ x ≤ 57) := by unfold notDig; simp; omega
theorem notDig_no (x : Nat) (h : 48 ≤ x ∧ x ≤ 57) : notDig x = false := by
  rw [Bool.eq_false_iff]; exact fun hh => (notDig_iff x).1 hh h
theorem get_atT (s : ByteArray) (i k : Nat) : (s.get! (i + k)).toNat = ((s.data.toList.drop i).getD k 0).toNat := by
  rw [List.getD_eq_getElem?_getD, List.getElem?_drop]
  by_cases h : i + k < s.size
  · have e : s.get! (i + k) = s[i + k]'h := by
      show s.get! (i + k) = _
      simp [ByteArray.get!, getElem!_pos, h]
      rfl
    rw [e]
    have : s.data.toList[i + k]? = some (s[i + k]'h) := by
      rw [List.getElem?_eq_getElem (by simpa using h)]; rfl
    rw [this]; rfl
  · have : s.data.toList[i + k]? = none := List.getElem?_eq_none (by simpa using h)
    rw [this]
    have hn : ¬ (i + k < s.data.size) := h
    show (s.data[i + k]!).toNat = _
    rw [getElem!_neg s.data (i + k) hn]
    rfl
theorem dec_low (s : ByteArray) (i : Nat) (b : UInt8) (t : List UInt8) (h : s.data.toList.drop i = b :: t) (hb : b.toNat < 128) : Utf8.decode s i = (b.toNat, 1) := by
  have e := get_atT s i 0
  rw [h] at e
  have e0 : (s.get! i).toNat = b.toNat := e
  unfold Utf8.decode
  simp only [Nat.add_zero, e0]
  rw [if_pos hb]
theorem dec_high (s : ByteArray) (i : Nat) (b : UInt8) (t : List UInt8) (h : s.data.toList.drop i = b :: t) (hb : 128 ≤ b.toNat) : 128 ≤ (Utf8.decode s i).1 := by
  have e := get_atT s i 0
  rw [h] at e
  have e0 : (s.get! i).toNat = b.toNat := e
  unfold Utf8.decode
  simp only [Nat.add_zero, e0]
  rw [if_neg (by omega)]
  repeat' split
  all_goals (simp_all [Utf8.runeError] <;> omega)
theorem idx_all (s : ByteArray) : ∀ (f pos : Nat), (∀ b ∈ s.data.toList.drop pos, isDig b = true) → Lib.idxFuncFrom notDig true s f pos = -1 := by
  intro f
  induction f with
  | zero => exact fun _ _ => rfl
  | succ f ih =>
    intro pos h
    by_cases hp : pos < s.size
    · have hl : pos < s.data.toList.length := by simpa using hp
      have hd := List.drop_eq_getElem_cons hl
      have hb := h _ (by rw [hd]; exact List.mem_cons_self)
      have hc := (isDig_iff _).1 hb
      have hdec := dec_low s pos _ _ hd (by omega)
      have hnd : notDig (s.data.toList[pos]'hl).toNat = false := notDig_no _ hc
      unfold Lib.idxFuncFrom
      rw [hdec]
      simp only [hp, hnd, if_true, Bool.false_eq_true, if_false]
      exact ih (pos + 1) (fun b hb' => h b (by rw [hd]; exact List.mem_cons_of_mem _ hb'))
    · exact Lib.idxFuncFrom_end _ _ _ _ _ hp
theorem idx_some (s : ByteArray) : ∀ (f pos : Nat), (∃ b ∈ s.data.toList.drop pos, isDig b = false) → s.size ≤ pos + f → 0 ≤ Lib.idxFuncFrom notDig true s f pos := by
  intro f
  induction f with
  | zero =>
    intro pos ⟨b, hb, _⟩ hf
    rw [List.drop_eq_nil_of_le (by simpa using hf)] at hb
    cases hb
  | succ f ih =>
    intro pos ⟨b, hb, hbd⟩ hf
    have hp : pos < s.size := by
      rcases Nat.lt_or_ge pos s.size with h | h
      · exact h
      · rw [List.drop_eq_nil_of_le (by simpa using h)] at hb; cases hb
    have hl : pos < s.data.toList.length := by simpa using hp
    have hd := List.drop_eq_getElem_cons hl
    unfold Lib.idxFuncFrom
    by_cases hx : isDig (s.data.toList[pos]'hl) = true
    · have hc := (isDig_iff _).1 hx
      have hdec := dec_low s pos _ _ hd (by omega)
      have hnd : notDig (s.data.toList[pos]'hl).toNat = false := notDig_no _ hc
      rw [hdec]
      simp only [hp, hnd, if_true, Bool.false_eq_true, if_false]
      refine ih (pos + 1) ⟨b, ?_, hbd⟩ (by omega)
      rw [hd] at hb
      rcases List.mem_cons.1 hb with h | h
      · rw [h, hx] at hbd; cases hbd
      · exact h
    · have hnd : notDig (Utf8.decode s pos).1 = true := by
        have hc : ¬ (48 ≤ (s.data.toList[pos]'hl).toNat ∧ (s.data.toList[pos]'hl).toNat ≤ 57) := fun hh => hx ((isDig_iff _).2 hh)
        by_cases h128 : (s.data.toList[pos]'hl).toNat < 128
        · rw [dec_low s pos _ _ hd h128]; exact (notDig_iff _).2 hc
        · have := dec_high s pos _ _ hd (by omega)
          exact (notDig_iff _).2 (by omega)
      simp only [hp, hnd, if_true]
      omega
/-- the library's look for what is no digit -/
theorem idx_dig (s : ByteArray) : decide (0 ≤ Lib.idxFunc notDig true s) = !s.data.toList.all isDig := by
  unfold Lib.idxFunc
  cases h : s.data.toList.all isDig with
  | true =>
    rw [idx_all s _ 0 (fun b hb => List.all_eq_true.1 h b hb)]; rfl
  | false =>
    have : ∃ b ∈ s.data.toList.drop 0, isDig b = false := by
      rw [List.all_eq_false] at h
      obtain ⟨b, hb, hh⟩ := h
      exact ⟨b, hb, by simpa using hh⟩
    have := idx_some s s.size 0 this (by omega)
    simpa using this
/-- the digits of a text, the lowest first -/
def digs (l : List UInt8) : List Int := l.reverse.map (fun c => (c.toNat : Int) - 48)
theorem digs_len (l : List UInt8) : (digs l).length = l.length := by simp [digs]
theorem digs_good (l : List UInt8) (h : l.all isDig = true) : Good (digs l) := by
  intro d hd
  simp only [digs, List.mem_map, List.mem_reverse] at hd
  obtain ⟨c, hc, rfl⟩ := hd
  have := (isDig_iff c).1 (List.all_eq_true.1 h c hc)
  omega
theorem digs_val (l : List UInt8) (h : l.all isDig = true) : val (digs l) = (magF 0 l : Int) := by
  have key : ∀ m : List UInt8, (∀ c ∈ m, isDig c = true) → val (m.map (fun c => (c.toNat : Int) - 48)) = (magF 0 m.reverse : Int) := by
    intro m
    induction m with
    | nil => intro _; rfl
    | cons c m ih =>
      intro hm
      have h1 := (isDig_iff c).1 (hm c List.mem_cons_self)
      have h2 := ih (fun x hx => hm x (List.mem_cons_of_mem _ hx))
      rw [List.reverse_cons, magF_snoc, List.map_cons]
      simp only [val, h2]
      omega
  have := key l.reverse (fun c hc => List.all_eq_true.1 h c (List.mem_reverse.1 hc))
  rw [List.reverse_reverse] at this
  exact this
def chD (d : Int) : UInt8 := UInt8.ofNat (48 + d.toNat)
theorem norm_tail {d : Int} {t : List Int} (h : Norm (d :: t)) (ht : t ≠ []) : Norm t := by
  rcases h with h | ⟨m, x, h1, h2⟩
  · cases h
  · cases m with
    | nil => simp at h1; exact absurd h1.2 ht
    | cons y m => simp at h1; exact .inr ⟨m, x, h1.2, h2⟩
/-- digits, the highest first, are the numeral -/
theorem dec_digs (ds : List Int) : ∀ u : Nat, Good ds → Norm ds → val ds = (u : Int) → ds ≠ [] → ds.reverse.map chD = Lib.decDigits u := by
  induction ds with
  | nil => intro u _ _ _ h; exact absurd rfl h
  | cons d t ih =>
    intro u hg hn hv _
    have hd := hg d List.mem_cons_self
    have hgt : Good t := good_sub hg fun x hx => List.mem_cons_of_mem _ hx
    have h0 := val_nonneg hgt
    simp only [val] at hv
    rw [List.reverse_cons, List.map_append, List.map_cons, List.map_nil]
    by_cases ht : t = []
    · subst ht
      simp only [val] at hv
      rw [Lib.decDigits, dif_pos (by omega)]
      have : d.toNat = u := by omega
      simp [chD, this]
    · have hp := val_ge hgt (norm_tail hn ht) ht
      have ht1 := ten_pos (t.length - 1)
      rw [Lib.decDigits, dif_neg (by omega), ih (u / 10) hgt (norm_tail hn ht) (by omega) ht]
      have : d.toNat = u % 10 := by omega
      rw [chD, this]
theorem dec_all (u : Nat) : (Lib.decDigits u).all isDig = true ∧ magF 0 (Lib.decDigits u) = u ∧ Lib.decDigits u ≠ [] := by
  have hone : ∀ x, x < 10 → (UInt8.ofNat (48 + x)).toNat = 48 + x := fun x hx => by
    rw [UInt8.toNat_ofNat']; omega
  induction u using Nat.strongRecOn with
  | _ u ih =>
    by_cases h : u < 10
    · rw [Lib.decDigits, dif_pos h]
      refine ⟨?_, ?_, by simp⟩
      · simp [isDig]; omega
      · show 0 * 10 + ((UInt8.ofNat (48 + u)).toNat - 48) = u
        rw [hone u h]; omega
    · rw [Lib.decDigits, dif_neg h]
      obtain ⟨h1, h2, h3⟩ := ih (u / 10) (by omega)
      refine ⟨?_, ?_, by simp⟩
      · rw [List.all_append, h1]
        simp [isDig]; omega
      · rw [magF_snoc, h2, hone (u % 10) (by omega)]; omega
theorem dec_body (u : Nat) : bodyT (Lib.decDigits u) = Lib.decDigits u ∧ negT (Lib.decDigits u) = false := by
  obtain ⟨h1, _, h3⟩ := dec_all u
  cases hd : Lib.decDigits u with
  | nil => exact absurd hd h3
  | cons c r =>
    rw [hd, List.all_cons, Bool.and_eq_true] at h1
    have := (isDig_iff c).1 h1.1
    constructor
    · show (if c.toNat = 43 ∨ c.toNat = 45 then r else c :: r) = _; rw [if_neg (by omega)]
    · show decide (c.toNat = 45) = false; rw [decide_eq_false (by omega)]
/-- noughts ahead change nothing -/
theorem mag_noughts (k : Nat) (l : List UInt8) : magF 0 (List.replicate k 48 ++ l) = magF 0 l := by
  induction k with
  | zero => rfl
  | succ k ih => rw [List.replicate_succ, List.cons_append, magF_cons]; exact ih
theorem all_noughts (k : Nat) (l : List UInt8) (h : l.all isDig = true) : (List.replicate k 48 ++ l).all isDig = true := by
  rw [List.all_append, h, Bool.and_true, List.all_eq_true]
  intro c hc
  rw [(List.mem_replicate.1 hc).2]; decide
theorem num_of {l b : List UInt8} {n : Int} (sg : Bool) (hb : bodyT l = b) (hs : negT l = sg) (h0 : b ≠ []) (ha : b.all isDig = true) (hv : n = if sg then -(magF 0 b : Int) else magF 0 b) : isNum l = true ∧ numT l = n := by
  constructor
  · unfold isNum; rw [hb, ha, Bool.and_true]; simp [h0]
  · unfold numT; rw [hb, hs]; exact hv.symm
/-- what is printed is parsed as what it was -/
theorem itoa_num (n : Int) : isNum (Lib.itoa n) = true ∧ numT (Lib.itoa n) = n := by
  unfold Lib.itoa
  by_cases h : n < 0
  · rw [if_pos h]
    obtain ⟨h1, h2, h3⟩ := dec_all n.natAbs
    refine num_of true (b := Lib.decDigits n.natAbs) rfl rfl h3 h1 ?_
    rw [h2]; simp; omega
  · rw [if_neg h]
    obtain ⟨h1, h2, h3⟩ := dec_all n.toNat
    refine num_of false (dec_body _).1 (dec_body _).2 h3 h1 ?_
    rw [h2]; simp; omega
theorem plus_num (n : Int) (k : Nat) (h : ¬ n < 0) : isNum (43 :: (List.replicate k 48 ++ Lib.itoa n)) = true ∧ numT (43 :: (List.replicate k 48 ++ Lib.itoa n)) = n := by
  unfold Lib.itoa
  rw [if_neg h]
  obtain ⟨h1, h2, h3⟩ := dec_all n.toNat
  refine num_of false (b := List.replicate k 48 ++ Lib.decDigits n.toNat) rfl rfl (by simp [h3]) (all_noughts _ _ h1) ?_
  rw [mag_noughts, h2]; simp; omega
theorem minus_num (n : Int) (k : Nat) (h : n < 0) : isNum (45 :: (List.replicate k 48 ++ (Lib.itoa n).drop 1)) = true ∧ numT (45 :: (List.replicate k 48 ++ (Lib.itoa n).drop 1)) = n := by
  unfold Lib.itoa
  rw [if_pos h, List.drop_succ_cons, List.drop_zero]
  obtain ⟨h1, h2, h3⟩ := dec_all n.natAbs
  refine num_of true (b := List.replicate k 48 ++ Lib.decDigits n.natAbs) rfl rfl (by simp [h3]) (all_noughts _ _ h1) ?_
  rw [mag_noughts, h2]; simp; omega
end Go.Proofs.YtbchkhjkajagfaaDoor
namespace Go.Proofs.YtbchkhjkajagfaaDoor
open Go Go.RowKit
set_option linter.unusedVariables false
set_option linter.unusedSimpArgs false
/-- a letter, a digit of ASCII -/
def lowI (n : Int) : Bool := decide ((97 ≤ n ∧ n ≤ 122) ∨ (65 ≤ n ∧ n ≤ 90))
def digI (n : Int) : Bool := decide (48 ≤ n ∧ n ≤ 57)
def bI (c : UInt8) : Int := (c.toNat : Int)
/-- may it stand at that place of a label? -/
def okL (i : Nat) (c : UInt8) : Bool := (lowI (bI c) || digI (bI c)) || (decide (i ≠ 0) && (decide (bI c = 95) || decide (bI c = 45)))
def labA : Nat → List UInt8 → Bool
  | _, [] => true
  | i, c :: r => okL i c && labA (i + 1) r
def labV (l : List UInt8) : Bool := decide (1 ≤ l.length) && (decide (l.length ≤ 100) && labA 0 l)
/-- may it stand in a language's part? (the first one: letters alone) -/
def okP (first : Bool) (c : UInt8) : Bool := lowI (bI c) || (!first && digI (bI c))
def langS : Bool → Nat → List UInt8 → Bool
  | _, long, [] => decide (0 < long)
  | p, long, c :: r => if bI c = 45 then (if long = 0 then false else langS true 0 r) else if okP (!p) c then (if 8 < long + 1 then false else langS p (long + 1) r) else false
def langV (l : List UInt8) : Bool := decide (l.length ≤ 40) && langS false 0 l
def pieceOK (first : Bool) (x : List UInt8) : Bool := decide (1 ≤ x.length) && (decide (x.length ≤ 8) && x.all (okP first))
def langP : Bool → List (List UInt8) → Bool
  | _, [] => true
  | f, x :: r => pieceOK f x && langP false r
def spl : List UInt8 → List (List UInt8)
  | [] => [[]]
  | c :: r => if bI c = 45 then [] :: spl r else match spl r with
    | [] => [[c]]
    | x :: xs => (c :: x) :: xs
theorem spl_ne : ∀ l, spl l ≠ []
  | [] => by simp [spl]
  | c :: r => by
    unfold spl
    split
    · simp
    · split <;> simp
theorem langS_spl : ∀ (l : List UInt8) (p : Bool) (long : Nat), long ≤ 8 → ∀ x xs, spl l = x :: xs →
    langS p long l = ((decide (0 < long + x.length) && (decide (long + x.length ≤ 8) && x.all (okP (!p)))) && langP false xs)
  | [], p, long, h, x, xs, e => by
    simp only [spl, List.cons.injEq] at e
    obtain ⟨rfl, rfl⟩ := e
    simp [langS, langP, h]
  | c :: r, p, long, h, x, xs, e => by
    obtain ⟨y, ys, hy⟩ : ∃ y ys, spl r = y :: ys := by
      cases hs : spl r with
      | nil => exact absurd hs (spl_ne r)
      | cons a b => exact ⟨a, b, rfl⟩
    unfold spl at e
    by_cases hc : bI c = 45
    · rw [if_pos hc] at e
      cases e
      unfold langS
      rw [if_pos hc]
      have ih := langS_spl r true 0 (by omega) y ys hy
      by_cases h0 : long = 0
      · rw [if_pos h0, h0]; simp
      · rw [if_neg h0, ih, hy]
        have : decide (0 < long) = true := decide_eq_true (by omega)
        simp only [langP, pieceOK, List.length_nil, Nat.add_zero, Nat.zero_add, List.all_nil, Bool.and_true, this, decide_eq_true h, Bool.true_and, Bool.not_true]
        rfl
    · rw [if_neg hc, hy] at e
      cases e
      unfold langS
      rw [if_neg hc]
      by_cases ho : okP (!p) c = true
      · rw [if_pos ho]
        by_cases h8 : 8 < long + 1
        · rw [if_pos h8]
          have : decide (long + (c :: y).length ≤ 8) = false := decide_eq_false (by simp; omega)
          rw [this]; simp
        · rw [if_neg h8, langS_spl r p (long + 1) (by omega) y _ hy]
          have e1 : long + 1 + y.length = long + (c :: y).length := by simp; omega
          rw [e1, List.all_cons, ho, Bool.true_and]
      · rw [if_neg ho]
        have : okP (!p) c = false := by simpa using ho
        rw [List.all_cons, this]; simp
theorem langS_all (l : List UInt8) : langS false 0 l = langP true (spl l) := by
  cases hs : spl l with
  | nil => exact absurd hs (spl_ne l)
  | cons x xs =>
    rw [langS_spl l false 0 (by omega) x xs hs]
    simp only [langP, pieceOK, Nat.zero_add, Bool.not_false]
    rfl
theorem bI_eq (c : UInt8) : bI c = 45 ↔ c = 45 := by
  unfold bI
  constructor
  · intro h; exact UInt8.toNat_inj.1 (by simp; omega)
  · rintro rfl; rfl
theorem spl_dash (r : List UInt8) : spl (45 :: r) = [] :: spl r := by
  show (if bI 45 = 45 then _ else _) = _
  rw [if_pos ((bI_eq 45).2 rfl)]
theorem spl_cons {c : UInt8} {r x : List UInt8} {xs : List (List UInt8)} (h : ¬ bI c = 45) (hy : spl r = x :: xs) : spl (c :: r) = (c :: x) :: xs := by
  show (if bI c = 45 then _ else _) = _
  rw [if_neg h, hy]
theorem index_first (l : List UInt8) : (∀ x ∈ l, x ≠ 45) ∧ spl l = [l] ∧ l.count 45 = 0 ∨ ∃ a b, l = a ++ 45 :: b ∧ (∀ x ∈ a, x ≠ 45) ∧ spl l = a :: spl b ∧ l.count 45 = 1 + b.count 45 := by
  induction l with
  | nil => exact .inl ⟨by simp, rfl, rfl⟩
  | cons c r ih =>
    by_cases hc : c = 45
    · subst hc
      refine .inr ⟨[], r, rfl, by simp, ?_, by simp; omega⟩
      exact spl_dash r
    · have hb : ¬ bI c = 45 := fun h => hc ((bI_eq c).1 h)
      rcases ih with ⟨h1, h2, h3⟩ | ⟨a, b, h1, h2, h3, h4⟩
      · refine .inl ⟨fun x hx => ?_, ?_, ?_⟩
        · rcases List.mem_cons.1 hx with rfl | h
          · exact hc
          · exact h1 x h
        · exact spl_cons hb h2
        · rw [List.count_cons_of_ne hc, h3]
      · refine .inr ⟨c :: a, b, by rw [h1]; rfl, fun x hx => ?_, ?_, ?_⟩
        · rcases List.mem_cons.1 hx with rfl | h
          · exact hc
          · exact h2 x h
        · exact spl_cons hb h3
        · rw [List.count_cons_of_ne hc, h4]
theorem byte_first (a b : List UInt8) (h : ∀ x ∈ a, x ≠ 45) : Lib.indexByte (a ++ 45 :: b) 45 = a.length := by
  have h1 := Lib.indexByte_ge (a ++ 45 :: b) 45
  have h3 : Lib.indexByte (a ++ 45 :: b) 45 ≠ -1 := fun e => by
    have := Lib.indexByte_none e a.length
    simp at this
  obtain ⟨o, ho⟩ : ∃ o : Nat, Lib.indexByte (a ++ 45 :: b) 45 = o := ⟨(Lib.indexByte (a ++ 45 :: b) 45).toNat, by omega⟩
  obtain ⟨h4, h5⟩ := Lib.indexByte_some ho
  rw [ho]
  rcases Nat.lt_trichotomy o a.length with g | g | g
  · rw [List.getElem?_append_left g] at h4
    exact absurd rfl (h 45 (List.mem_of_getElem? h4))
  · rw [g]
  · have := h5 a.length g
    simp at this
theorem byte_never (l : List UInt8) (h : ∀ x ∈ l, x ≠ 45) : Lib.indexByte l 45 = -1 := by
  have h1 := Lib.indexByte_ge l 45
  by_cases h3 : Lib.indexByte l 45 = -1
  · exact h3
  · obtain ⟨o, ho⟩ : ∃ o : Nat, Lib.indexByte l 45 = o := ⟨(Lib.indexByte l 45).toNat, by omega⟩
    exact absurd rfl (h 45 (List.mem_of_getElem? (Lib.indexByte_some ho).1))
theorem splitK_spl : ∀ (n : Nat) (l : List UInt8), l.count 45 = n → Lib.splitK [45] 0 n l = spl l
  | 0, l, h => by
    rcases index_first l with ⟨_, h2, _⟩ | ⟨a, b, _, _, _, h4⟩
    · rw [h2]; rfl
    · omega
  | n + 1, l, h => by
    rcases index_first l with ⟨_, _, h3⟩ | ⟨a, b, h1, h2, h3, h4⟩
    · omega
    · unfold Lib.splitK
      have e : Lib.index l [45] = a.length := by rw [Lib.index_one, h1]; exact byte_first a b h2
      rw [e, if_neg (by simp), h3, Int.toNat_natCast]
      have e2 : l.take (a.length + 0) = a := by rw [h1]; simp
      have e3 : l.drop (a.length + [45].length) = b := by rw [h1, List.drop_append]; simp
      rw [e2, show l.drop (a.length + ([45] : List UInt8).length) = b from e3, splitK_spl n b (by omega)]
def dashB : ByteArray := ⟨#[45]⟩
theorem split_spl (s : ByteArray) : (Lib.splitB dashB 0 (Lib.countB s dashB) s).map (·.data.toList) = spl s.data.toList := by
  rw [Lib.splitB_data]
  exact splitK_spl _ _ (Lib.count_one 45 s.data.toList).symm
end Go.Proofs.YtbchkhjkajagfaaDoor
namespace Go.Proofs.YtbchkhjkajagfaaDoor
open Go Go.RowKit
set_option linter.unusedVariables false
theorem grownBy_setCell (w : World) (p : Addr) (v : Value) : w.grownBy (w.setCell p v) (some p.block) :=
  ⟨rfl, rfl, rfl, by simp, fun k hk hne => Below.heap_setCell w p v k (fun e => hne (by rw [e]))⟩
/-- the elements' type: its slice type, its cells -/
structure Elt {α : Type} (P : Program) (t T : TypeId) (size bytes : Nat) (c : α → List Value) : Prop where
  ht : P.underlying t = some (.slice T)
  hi : ∃ (i : TypeInfo) (z : Value), P.info? T = some i ∧ i.zero = some z ∧ i.size = size ∧ i.bytes = bytes ∧ z.cells.size = size
  len : ∀ x, (c x).length = size
  one : ∀ x, ∀ u ∈ c x, u.oneCell' = true
  pos : 0 < size
  small : bytes ≤ 1000
theorem elt_info {P : Program} {T : TypeId} {z : Value} {size bytes : Nat} (h : (P.info? T).map (fun i => (i.zero, i.size, i.bytes)) = some (some z, size, bytes)) (hz : z.cells.size = size) :
    ∃ (i : TypeInfo) (z : Value), P.info? T = some i ∧ i.zero = some z ∧ i.size = size ∧ i.bytes = bytes ∧ z.cells.size = size := by
  cases hi : P.info? T with
  | none => rw [hi] at h; cases h
  | some i0 =>
    rw [hi] at h
    simp only [Option.map_some, Option.some.injEq, Prod.mk.injEq] at h
    exact ⟨i0, z, rfl, h.1, h.2.1, h.2.2, hz⟩
/-- a row that reads as a list -/
def RowOf {α : Type} (T : TypeId) (size : Nat) (c : α → List Value) (w : World) (base : Nat) (V : Value) (l : List α) : Prop := w.ownsRow base T size V l.length (l.flatMap c)
section
variable {α : Type} {P : Program} {t T : TypeId} {size bytes : Nat} {c : α → List Value}
theorem flat_len (hl : ∀ x, (c x).length = size) : ∀ l : List α, (l.flatMap c).length = l.length * size
  | [] => by simp
  | x :: l => by rw [List.flatMap_cons, List.length_append, hl, flat_len hl l, List.length_cons, Nat.add_mul]; omega
theorem flat_get (hl : ∀ x, (c x).length = size) : ∀ (l : List α) (j k : Nat) (hj : j < l.length), k < size → (l.flatMap c)[j * size + k]? = (c (l[j]'hj))[k]?
  | [], j, k, hj, _ => by simp at hj
  | x :: l, 0, k, _, hk => by
    rw [List.flatMap_cons, Nat.zero_mul, Nat.zero_add, List.getElem?_append_left (by rw [hl]; exact hk)]
    rfl
  | x :: l, j + 1, k, hj, hk => by
    have ih := flat_get hl l j k (by simpa using hj) hk
    rw [List.flatMap_cons, List.getElem?_append_right (by rw [hl, Nat.add_mul]; omega), hl]
    rw [show (j + 1) * size + k - size = j * size + k by rw [Nat.add_mul]; omega, ih]
    rfl
theorem RowOf.below {w w' : World} {base : Nat} {V : Value} {l : List α} (h : RowOf T size c w base V l) (hb : Below w.heap.size w w') : RowOf T size c w' base V l := ownsRow_below h hb
theorem RowOf.base {w : World} {b b' : Nat} {V : Value} {l : List α} (h : RowOf T size c w b V l) (hb : b' ≤ b) : RowOf T size c w b' V l := ownsRow_base h hb
theorem RowOf.nil (w : World) (base : Nat) : RowOf T size c w base (.slice none 0 0) [] := World.ownsRow_nil w base T size
theorem RowOf.form {w : World} {base : Nat} {V : Value} {l : List α} (h : RowOf T size c w base V l) : ∃ a cap, V = .slice a l.length cap := by
  obtain ⟨_, (⟨rfl, h0⟩ | ⟨g, cap, _, rfl, _⟩)⟩ := h
  · exact ⟨none, 0, by rw [h0]⟩
  · exact ⟨_, cap, rfl⟩
theorem RowOf.form_cap {w : World} {base : Nat} {V : Value} {l : List α} (h : RowOf T size c w base V l) : ∃ a cap, V = .slice a l.length cap ∧ l.length ≤ cap := by
  obtain ⟨_, (⟨rfl, h0⟩ | ⟨g, cap, _, rfl, _, _, hn, _⟩)⟩ := h
  · exact ⟨none, 0, by rw [h0], by omega⟩
  · exact ⟨_, cap, rfl, hn⟩
theorem RowOf.at_ {w : World} {base : Nat} {V : Value} {l : List α} (hl : ∀ x, (c x).length = size) (h : RowOf T size c w base V l) (j : Nat) (hj : j < l.length) :
    ∃ g cap, V = .slice (some ⟨g, 0, none⟩) l.length cap ∧ base ≤ g ∧ g < w.heap.size ∧ ∀ k u, k < size → (c (l[j]'hj))[k]? = some u → w.cell? ⟨g, j * size + k, none⟩ = some u := by
  obtain ⟨h1, (⟨rfl, h0⟩ | ⟨g, cap, cur, rfl, hb, hg, hn, hm, hs, ht⟩)⟩ := h
  · omega
  · refine ⟨g, cap, rfl, hb, (Array.getElem?_eq_some_iff.1 hg).1, fun k u hk hu => ?_⟩
    rw [cell_of_row w g _ cur _ (0, 0) hg]
    have h2 := flat_get hl l j k hj hk
    rw [← ht, hu, List.getElem?_take] at h2
    split at h2
    · simpa using h2
    · cases h2
/-- a row of the call's own, made of its elements alone -/
theorem RowOf.new (hl : ∀ x, (c x).length = size) (w : World) (l : List α) (hn : l.length ≤ 200000) : RowOf T size c (w.alloc (.cells (l.flatMap c).toArray T)) w.heap.size (.slice (some ⟨w.heap.size, 0, none⟩) l.length l.length) l := by
  refine ⟨flat_len hl l, .inr ⟨w.heap.size, l.length, _, rfl, Nat.le_refl _, heap_alloc_new w _, Nat.le_refl _, by unfold maxLen; omega, ?_, ?_⟩⟩
  · rw [List.size_toArray, flat_len hl]
  · rw [← flat_len hl, List.take_length]
theorem RowOf.own_lt {w : World} {base : Nat} {V : Value} {l : List α} (h : RowOf T size c w base V l) : ∀ k, V.ownBlock = some k → base ≤ k ∧ k < w.heap.size := World.ownsRow.lt h
theorem RowOf.kept_row {w w' : World} {base : Nat} {V : Value} {l : List α} {row : Option Nat} (h : RowOf T size c w base V l) (hg : w.grownBy w' row) (hne : V.ownBlock ≠ row) : RowOf T size c w' base V l := World.ownsRow.kept h hg (.inr hne)
theorem RowOf.set_far {w : World} {base : Nat} {V : Value} {l : List α} (h : RowOf T size c w base V l) {p : Addr} (hp : p.block < base) (v : Value) : RowOf T size c (w.setCell p v) base V l := by
  refine h.kept_row (grownBy_setCell w p v) fun e => ?_
  have := (World.ownsRow.lt h _ e).1
  omega
theorem RowOf.take {w : World} {base : Nat} {g n cap : Nat} {l : List α} (hl : ∀ x, (c x).length = size) (h : RowOf T size c w base (.slice (some ⟨g, 0, none⟩) n cap) l) (j : Nat) (hj : j ≤ l.length) : RowOf T size c w base (.slice (some ⟨g, 0, none⟩) j cap) (l.take j) := by
  obtain ⟨h1, (⟨hv, h0⟩ | ⟨g', cap', cur, hv, hb, hg, hn, hm, hs, ht⟩)⟩ := h
  · cases hv
  · injection hv with hv1 _ hv3
    injection hv1 with hv2
    injection hv2 with hv4 _ _
    subst hv4; subst hv3
    have hlt : (l.take j).length = j := by rw [List.length_take]; omega
    refine ⟨flat_len hl _, .inr ⟨g, cap, cur, by rw [hlt], hb, hg, by omega, hm, hs, ?_⟩⟩
    rw [hlt]
    have h2 := congrArg (List.take (j * size)) ht
    rw [List.take_take, Nat.min_eq_left (Nat.mul_le_mul_right _ hj)] at h2
    rw [h2]
    have h3 : l.flatMap c = (l.take j).flatMap c ++ (l.drop j).flatMap c := by rw [← List.flatMap_append, List.take_append_drop]
    rw [h3]
    refine List.take_left' ?_
    rw [flat_len hl, hlt]
theorem run_append_rows (E : Elt P t T size bytes c) (ty : TypeId) (w : World) (base b2 : Nat) (V V2 : Value) (us vs : List α) (h : RowOf T size c w base V us) (h2 : RowOf T size c w b2 V2 vs) (hn : us.length + vs.length ≤ 200000) (hbase : base ≤ w.heap.size) :
    ∃ V' w', (Builtin.append_ #[t, t] ty #[V, V2]).run P w = .ok V' w' ∧ RowOf T size c w' base V' (us ++ vs) ∧ w.grownBy w' V.ownBlock ∧ (V'.ownBlock = V.ownBlock ∨ V'.ownBlock = some w.heap.size) := by
  obtain ⟨i, z, hi, hz, hs, hby, hzs⟩ := E.hi
  have hmul : (us.length + vs.length) * bytes ≤ 200000 * 1000 := Nat.mul_le_mul hn E.small
  rcases (show (V2 = .slice none 0 0 ∧ vs = []) ∨ ∃ g cap, V2 = .slice (some ⟨g, 0, none⟩) vs.length cap from by
    obtain ⟨_, (⟨rfl, h0⟩ | ⟨g, cap, _, rfl, _⟩)⟩ := h2
    · exact .inl ⟨rfl, List.eq_nil_of_length_eq_zero h0⟩
    · exact .inr ⟨g, cap, rfl⟩) with ⟨rfl, rfl⟩ | ⟨g, cap, rfl⟩
  · refine ⟨V, w, ?_, by simpa using h, World.grownBy.refl w _, .inl rfl⟩
    rcases h.2 with ⟨rfl, h0⟩ | ⟨g, cap, cur, rfl, _, _, hnc, _⟩
    · simp [Builtin.append_, run_underlying E.ht, sizeOf, typeInfo, hi, Builtin.lenOf, Builtin.firstCells]
    · simp [Builtin.append_, run_underlying E.ht, sizeOf, typeInfo, hi, Builtin.lenOf, Builtin.firstCells, hnc, storeCells]
  · obtain ⟨V', w', hr, h3, h4, _, h5⟩ := run_append_own_at (P := P) w base t ty T i z size bytes E.ht hi hz hs hby hzs E.pos V us.length (us.flatMap c) h ⟨g, 0, none⟩ vs.length cap (vs.flatMap c) (flat_len E.len vs) (World.ownsRow.cells (g := g) h2 rfl) (fun u hu => by
      obtain ⟨x, _, hx⟩ := List.mem_flatMap.1 hu
      exact E.one x u hx) (by unfold maxLen; omega) (by omega) hbase
    exact ⟨V', w', hr, by unfold RowOf; rw [List.length_append, List.flatMap_append]; exact h3, h4, h5⟩
theorem wp_append_rows (E : Elt P t T size bytes c) {o : Oper} {a : Act} {K : Act → World → Prop} {Q : Exit → Act → World → Prop} (w : World) (s x : Operand) (ho : o.op = .call { callee := .builtin .append, args := #[s, x], argTypes := #[t, t] })
    (base b2 : Nat) (V V2 : Value) (us vs : List α) (hs : a.eval s = V) (hx : a.eval x = V2) (h : RowOf T size c w base V us) (h2 : RowOf T size c w b2 V2 vs) (hn : us.length + vs.length ≤ 200000) (hbase : base ≤ w.heap.size)
    (hk : ∀ V' w', RowOf T size c w' base V' (us ++ vs) → w.grownBy w' V.ownBlock → (V'.ownBlock = V.ownBlock ∨ V'.ownBlock = some w.heap.size) → K (a.put o.dst V') w') : o.wp P a w K Q := by
  obtain ⟨V', w', hr, h3, h4, h5⟩ := run_append_rows E o.type w base b2 V V2 us vs h h2 hn hbase
  unfold Oper.wp execOp
  simp only [ho, resolve, invoke, builtin, Sem.run_bind, Sem.run_pure, Result.andThen_ok, List.map_toArray, List.map_cons, List.map_nil, hs, hx, hr]
  exact hk V' w' h3 h4 h5
theorem wpList_append_rows (E : Elt P t T size bytes c) {ops : Array Oper} {rest : List Oper} {o : Oper} {a : Act} {Q : Exit → Act → World → Prop} (w : World) (hgd : o.guard = none) (s x : Operand) (ho : o.op = .call { callee := .builtin .append, args := #[s, x], argTypes := #[t, t] })
    (base b2 : Nat) (V V2 : Value) (us vs : List α) (hs : a.eval s = V) (hx : a.eval x = V2) (h : RowOf T size c w base V us) (h2 : RowOf T size c w b2 V2 vs) (hn : us.length + vs.length ≤ 200000) (hbase : base ≤ w.heap.size)
    (hk : ∀ V' w', RowOf T size c w' base V' (us ++ vs) → w.grownBy w' V.ownBlock → (V'.ownBlock = V.ownBlock ∨ V'.ownBlock = some w.heap.size) → wpList P ops Q rest (a.put o.dst V') w') : wpList P ops Q (o :: rest) a w :=
  wpList_plain hgd fun _ hK => wp_append_rows E w s x ho base b2 V V2 us vs hs hx h h2 hn hbase fun V' w' h3 h4 h5 => hK _ _ (hk V' w' h3 h4 h5)
theorem step_append_rows (E : Elt P t T size bytes c) {ops : Array Oper} {o : Oper} {a : Act} {K : Act → World → Prop} {Q : Exit → Act → World → Prop} {F : Prop} (w : World) (hgd : o.guard = none) (s x : Operand) (ho : o.op = .call { callee := .builtin .append, args := #[s, x], argTypes := #[t, t] })
    (base b2 : Nat) (V V2 : Value) (us vs : List α) (hs : a.eval s = V) (hx : a.eval x = V2) (h : RowOf T size c w base V us) (h2 : RowOf T size c w b2 V2 vs) (hn : us.length + vs.length ≤ 200000) (hbase : base ≤ w.heap.size)
    (hk : ∀ V' w', RowOf T size c w' base V' (us ++ vs) → w.grownBy w' V.ownBlock → (V'.ownBlock = V.ownBlock ∨ V'.ownBlock = some w.heap.size) → K (a.put o.dst V') w') : if Region.wanted o (yielded ops a.tmps) = true then Oper.wp P o a w K Q else F := by
  have hw : Region.wanted o (yielded ops a.tmps) = true := by simp [Region.wanted, hgd]
  rw [if_pos hw]
  exact wp_append_rows E w s x ho base b2 V V2 us vs hs hx h h2 hn hbase hk
end
end Go.Proofs.YtbchkhjkajagfaaDoor
namespace Go.Proofs.YtbchkhjkajagfaaDoor
open Go Go.RowKit
/-- behind all others: the last operation -/
def lastQ (P : Program) (ops : Array Oper) (Q : Exit → Act → World → Prop) (m : Nat) : Exit → Act → World → Prop
  | .normal, a, w => wpOp P ops Q m (fun a' w' => Q .normal a' w') a w
  | .exit i, a, w => Q (.exit i) a w
  | .goto i, a, w => Q (.goto i) a w
  | .ret, a, w => Q .ret a w
  | .panic c, a, w => Q (.panic c) a w
  | .outgrown, a, w => Q .outgrown a w
section
variable {P : Program} {ops : Array Oper} {Q : Exit → Act → World → Prop} {md : Region.Mode} {S : World → Prop} {m : Nat}
theorem lastQ_normal {a : Act} {w : World} (h : wpOp P ops Q m (fun a' w' => Q .normal a' w') a w) : lastQ P ops Q m .normal a w := h
theorem letsOut_last (h : LetsOut (lastQ P ops Q m)) : LetsOut Q := h
theorem operWp_last {o : Oper} {a : Act} {w : World} {K : Act → World → Prop} (h : o.wp P a w K (lastQ P ops Q m)) : o.wp P a w K Q := by
  unfold Oper.wp at *
  generalize (execOp a.eval o).run P w = r at *
  cases r with
  | ok n w' => cases n <;> exact h
  | halt x w' => cases x <;> exact h
theorem wpOp_last {j : Nat} {a : Act} {w : World} {K : Act → World → Prop} (h : wpOp P ops (lastQ P ops Q m) j K a w) : wpOp P ops Q j K a w := by
  unfold wpOp at *
  split
  · simpa [*] using h
  · rename_i o ho
    simp only [ho] at h
    split
    · rename_i hw
      simp only [hw, if_true] at h
      exact h.imp operWp_last (fun x => ⟨x.1, letsOut_last x.2⟩)
    · rename_i hw
      simp only [hw] at h
      exact h
/-- it waits for all others, nobody waits for it; each waits for earlier ones alone -/
def isLast (md : Region.Mode) (ops : Array Oper) (m : Nat) : Bool :=
  (((ops[m]?).map fun om => (List.range ops.size).all fun j => j == m || om.after.any fun e => Region.binds md e && e.on == j).getD false) &&
  (List.range ops.size).all fun j => ((ops[j]?).map fun o => o.after.all fun e => e.on != m && decide (e.on < j)).getD true
theorem isLast_spec (h : isLast md ops m = true) : (∃ om, ops[m]? = some om ∧ ∀ j, j < ops.size → j ≠ m → ∃ e ∈ om.after, Region.binds md e = true ∧ e.on = j) ∧
    ∀ (j : Nat) o, ops[j]? = some o → ∀ e ∈ o.after, e.on ≠ m ∧ e.on < j := by
  unfold isLast at h
  rw [Bool.and_eq_true] at h
  obtain ⟨h1, h2⟩ := h
  refine ⟨?_, ?_⟩
  · cases hm : ops[m]? with
    | none => rw [hm] at h1; cases h1
    | some om =>
      rw [hm] at h1
      simp only [Option.map_some, Option.getD_some, List.all_eq_true, List.mem_range, Bool.or_eq_true, beq_iff_eq, Array.any_eq_true', Bool.and_eq_true] at h1
      refine ⟨om, rfl, fun j hj hne => ?_⟩
      rcases h1 j hj with h | ⟨e, he, h3⟩
      · exact absurd h hne
      · exact ⟨e, he, h3.1, h3.2⟩
  · intro j o ho e he
    have hj : j < ops.size := (Array.getElem?_eq_some_iff.1 ho).1
    have h3 := List.all_eq_true.1 h2 j (List.mem_range.2 hj)
    rw [ho] at h3
    simp only [Option.map_some, Option.getD_some, Array.all_eq_true', Bool.and_eq_true, bne_iff_ne, ne_eq, decide_eq_true_eq] at h3
    exact h3 e he
theorem listed_of {l : Array Bool} {j : Nat} (hj : j < l.size) : l.getD j true = l.getD j false := by simp [hj]
theorem ready_some (h : isLast md ops m = true) {l : Array Bool} (hl : l.size = ops.size) : ∀ (j : Nat), j < ops.size → l.getD j true = false → Region.ready md ops l ≠ [] := by
  intro j
  induction j using Nat.strongRecOn with
  | ind j ih =>
    intro hj hu
    have ho : ops[j]? = some (ops[j]'hj) := Array.getElem?_eq_getElem hj
    by_cases hall : ∀ e ∈ (ops[j]'hj).after, Region.binds md e = true → l.getD e.on false = true
    · have hr : j ∈ Region.ready md ops l := mem_ready.2 ⟨hu, _, ho, hall⟩
      intro h0
      rw [h0] at hr
      cases hr
    · simp only [Classical.not_forall] at hall
      obtain ⟨e, he, hb, hn⟩ := hall
      have hlt := ((isLast_spec h).2 j _ ho e he).2
      refine ih e.on hlt (by omega) ?_
      rw [listed_of (by omega)]
      simpa using hn
theorem last_alone (h : isLast md ops m = true) {l : Array Bool} (hl : l.size = ops.size) (hr : m ∈ Region.ready md ops l) : Region.ready md ops (l.setIfInBounds m true) = [] := by
  obtain ⟨⟨om, hom, hall⟩, _⟩ := isLast_spec h
  obtain ⟨_, om', hom', h2⟩ := mem_ready.1 hr
  rw [hom] at hom'
  cases hom'
  rw [List.eq_nil_iff_forall_not_mem]
  intro j hj
  obtain ⟨hu, o, ho, _⟩ := mem_ready.1 hj
  have hjs : j < ops.size := (Array.getElem?_eq_some_iff.1 ho).1
  by_cases hne : j = m
  · subst hne
    simp [hl, hjs] at hu
  · obtain ⟨e, he, hb, rfl⟩ := hall j hjs hne
    rw [getD_set_ne true (Ne.symm hne), listed_of (by omega), h2 e he hb] at hu
    cases hu
theorem wpAny_last (h : isLast md ops m = true) : ∀ (fuel : Nat) (l : Array Bool) (a : Act) (w : World), l.size = ops.size → l.getD m true = false →
    wpAny P md ops (lastQ P ops Q m) fuel (l.setIfInBounds m true) a w → wpAny P md ops Q (fuel + 1) l a w := by
  have hms : m < ops.size := by
    obtain ⟨⟨om, hom, _⟩, _⟩ := isLast_spec h
    exact (Array.getElem?_eq_some_iff.1 hom).1
  intro fuel
  induction fuel with
  | zero =>
    intro l a w hl hu hw
    refine ⟨fun h0 => absurd h0 (ready_some h hl m hms hu), fun i hi => ?_⟩
    by_cases hne : i = m
    · subst hne
      exact wpOp_mono (fun a' w' hq => ⟨hw.1, hq⟩) hw.2
    · have := ready_mono hi hne
      rw [hw.1] at this
      cases this
  | succ fuel ih =>
    intro l a w hl hu hw
    refine ⟨fun h0 => absurd h0 (ready_some h hl m hms hu), fun i hi => ?_⟩
    by_cases hne : i = m
    · subst hne
      have h0 := last_alone h hl hi
      exact wpOp_mono (fun a' w' hq => ⟨fun _ => hq, by rw [h0]; simp⟩) (hw.1 h0)
    · have h1 := wpOp_last (hw.2 i (ready_mono hi hne))
      refine wpOp_mono (fun a' w' hq => ih (l.setIfInBounds i true) a' w' (by simpa using hl) (by rw [getD_set_ne true hne]; exact hu) ?_) h1
      rw [Array.setIfInBounds_comm _ _ hne]
      exact hq
/-- the beginning: number m is the last -/
theorem wp_region_last {id : Nat} {a : Act} {w : World} (m n : Nat) (hl : isLast .any ops m = true) (hn : ops.size = n + 1) (hm : P.follows .mixedOrders = true) (hS : S w.drew)
    (h : S w.drew → wpAnyH P .any ops (lastQ P ops Q m) S n ((Array.replicate (n + 1) false).setIfInBounds m true) a w.drew) : (Code.region id ops true).wp P Q a w := by
  refine wp_region_any hm ?_
  rw [hn]
  refine wpAny_last hl n _ a _ (by simp [hn]) ?_ (wpAny_of_held _ _ _ _ (h hS))
  have hms : m < ops.size := by
    obtain ⟨⟨om, hom, _⟩, _⟩ := isLast_spec hl
    exact (Array.getElem?_eq_some_iff.1 hom).1
  simp [show m < n + 1 by omega]
end
end Go.Proofs.YtbchkhjkajagfaaDoor
