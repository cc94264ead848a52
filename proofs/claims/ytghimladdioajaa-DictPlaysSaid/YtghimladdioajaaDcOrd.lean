/- Plain laws: the order of terms is a whole one; the document's order is the same (cut out of TmOrd, by program); the contract of the document's Less. -/
import Derived.Test.YtghimladdioajaaDcTerm
namespace Go.Proofs.Ytghimladdioajaa
open Go Go.RowKit
set_option linter.unusedVariables false
set_option linter.unusedSimpArgs false
set_option maxRecDepth 100000
theorem sameS_data (x y : ByteArray) : sameS x y = (x.data.toList == y.data.toList) := by
  unfold sameS
  rw [Lib.toList_data, Lib.toList_data]
theorem less_self : ∀ l : List UInt8, Op.bytesLess l l = false
  | [] => by rfl
  | a :: l => by simp [Op.bytesLess, less_self l]
theorem sameS_eq {x y : ByteArray} (h : sameS x y = true) : x = y := by
  rw [sameS_data] at h
  have := eq_of_beq h
  obtain ⟨⟨a⟩⟩ := x
  obtain ⟨⟨b⟩⟩ := y
  simp at this
  rw [this]
theorem eqT_eq {x y : Tm} (h : eqT x y = true) : x = y := by
  cases x <;> cases y <;> first | (cases h; done) | skip
  · rw [sameS_eq h]
  · rw [sameS_eq h]
  · simp only [eqT, Bool.and_eq_true] at h
    rw [sameS_eq h.1, sameS_eq h.2.1, sameS_eq h.2.2]
structure Ord {α : Type} (f : α → α → Int) : Prop where
  anti : ∀ x y, f y x = - f x y
  trans : ∀ x y z, f x y ≤ 0 → f y z ≤ 0 → f x z ≤ 0
def lexV {α : Type} (f g : α → α → Int) (x y : α) : Int := if f x y = 0 then g x y else f x y
theorem Ord.lex {α : Type} {f g : α → α → Int} (hf : Ord f) (hg : Ord g) : Ord (lexV f g) := by
  constructor
  · intro x y
    unfold lexV
    have := hf.anti x y
    by_cases h : f x y = 0
    · rw [if_pos h, if_pos (by omega)]; exact hg.anti x y
    · rw [if_neg h, if_neg (by omega)]; exact this
  · intro x y z h1 h2
    unfold lexV at *
    have a1 := hf.anti x y
    have a2 := hf.anti y z
    have a3 := hf.anti x z
    have t1 := hf.trans x y z
    have t2 := hf.trans z x y
    have t3 := hf.trans y z x
    have t4 := hf.trans z y x
    have g1 := hg.trans x y z
    split at h1 <;> split at h2 <;> split <;> omega
theorem Ord.comap {α β : Type} {f : α → α → Int} (hf : Ord f) (p : β → α) : Ord (fun x y => f (p x) (p y)) := ⟨fun x y => hf.anti _ _, fun x y z => hf.trans _ _ _⟩
theorem ord_int : Ord cmpI := by
  constructor
  · intro x y; unfold cmpI; split <;> split <;> omega
  · intro x y z; unfold cmpI; split <;> split <;> split <;> (try split) <;> (try split) <;> (try split) <;> omega
theorem less_asym : ∀ x y : List UInt8, Op.bytesLess x y = true → Op.bytesLess y x = false
  | [], [] => by simp [Op.bytesLess]
  | _ :: _, [] => by simp [Op.bytesLess]
  | [], _ :: _ => by simp [Op.bytesLess]
  | a :: x, b :: y => by
    intro h
    have ih := less_asym x y
    simp only [Op.bytesLess, Bool.or_eq_true, Bool.and_eq_true, decide_eq_true_eq, beq_iff_eq, Bool.or_eq_false_iff, Bool.and_eq_false_iff, decide_eq_false_iff_not, UInt8.lt_iff_toNat_lt, ← UInt8.toNat_inj] at h ⊢
    rcases h with h | ⟨h1, h2⟩
    · exact ⟨by omega, .inl (by simp [← UInt8.toNat_inj]; omega)⟩
    · exact ⟨by omega, .inr (ih h2)⟩
theorem less_tot : ∀ x y : List UInt8, Op.bytesLess x y = true ∨ x = y ∨ Op.bytesLess y x = true
  | [], [] => by simp [Op.bytesLess]
  | _ :: _, [] => by simp [Op.bytesLess]
  | [], _ :: _ => by simp [Op.bytesLess]
  | a :: x, b :: y => by
    have ih := less_tot x y
    simp only [Op.bytesLess, Bool.or_eq_true, Bool.and_eq_true, decide_eq_true_eq, beq_iff_eq, UInt8.lt_iff_toNat_lt, List.cons.injEq]
    rcases Nat.lt_trichotomy a.toNat b.toNat with h | h | h
    · exact .inl (.inl h)
    · have e : a = b := UInt8.toNat_inj.1 h
      rcases ih with h1 | h1 | h1
      · exact .inl (.inr ⟨e, h1⟩)
      · exact .inr (.inl ⟨e, h1⟩)
      · exact .inr (.inr (.inr ⟨e.symm, h1⟩))
    · exact .inr (.inr (.inl h))
theorem less_trans : ∀ x y z : List UInt8, Op.bytesLess x y = true → Op.bytesLess y z = true → Op.bytesLess x z = true
  | [], [], _ => by simp [Op.bytesLess]
  | _ :: _, [], _ => by simp [Op.bytesLess]
  | [], _ :: _, [] => by simp [Op.bytesLess]
  | [], _ :: _, _ :: _ => by simp [Op.bytesLess]
  | _ :: _, _ :: _, [] => by simp [Op.bytesLess]
  | a :: x, b :: y, c :: z => by
    have ih := less_trans x y z
    simp only [Op.bytesLess, Bool.or_eq_true, Bool.and_eq_true, decide_eq_true_eq, beq_iff_eq, UInt8.lt_iff_toNat_lt, ← UInt8.toNat_inj]
    rintro (h | ⟨h1, h2⟩) (h' | ⟨h1', h2'⟩)
    · exact .inl (by omega)
    · exact .inl (by omega)
    · exact .inl (by omega)
    · exact .inr ⟨by omega, ih h2 h2'⟩
theorem cmpS_cases (x y : ByteArray) : (cmpS x y = -1 ∧ lessS x y = true ∧ lessS y x = false ∧ x.toList ≠ y.toList) ∨ (cmpS x y = 0 ∧ lessS x y = false ∧ lessS y x = false ∧ x.toList = y.toList) ∨ (cmpS x y = 1 ∧ lessS x y = false ∧ lessS y x = true ∧ x.toList ≠ y.toList) := by
  unfold cmpS lessS sameS
  rcases less_tot x.toList y.toList with h | h | h
  · exact .inl ⟨by rw [if_pos h], h, less_asym _ _ h, fun e => by rw [e, less_self] at h; cases h⟩
  · refine .inr (.inl ⟨?_, ?_, ?_, h⟩)
    · rw [h, less_self, if_neg (by simp), if_pos (by simp)]
    · rw [h, less_self]
    · rw [h, less_self]
  · have h2 := less_asym _ _ h
    have h3 : x.toList ≠ y.toList := fun e => by rw [e, less_self] at h; cases h
    exact .inr (.inr ⟨by rw [h2, if_neg (by simp), if_neg (by simpa using h3)], h2, h, h3⟩)
theorem ord_str : Ord cmpS := by
  constructor
  · intro x y
    rcases cmpS_cases x y with ⟨h, a, b, c⟩ | ⟨h, a, b, c⟩ | ⟨h, a, b, c⟩ <;> rcases cmpS_cases y x with ⟨h', a', b', c'⟩ | ⟨h', a', b', c'⟩ | ⟨h', a', b', c'⟩ <;> first | omega | (exfalso; simp_all)
  · intro x y z h1 h2
    have n1 : lessS y x = false := by rcases cmpS_cases x y with ⟨h, a, b, c⟩ | ⟨h, a, b, c⟩ | ⟨h, a, b, c⟩ <;> first | exact b | omega
    have n2 : lessS z y = false := by rcases cmpS_cases y z with ⟨h, a, b, c⟩ | ⟨h, a, b, c⟩ | ⟨h, a, b, c⟩ <;> first | exact b | omega
    have n3 : lessS z x = false := by
      cases h : lessS z x with
      | false => rfl
      | true =>
        unfold lessS at h n1 n2
        rcases less_tot x.toList y.toList with g | g | g
        · rw [less_trans _ _ _ h g] at n2; cases n2
        · rw [g, n2] at h; cases h
        · rw [g] at n1; cases n1
    rcases cmpS_cases x z with ⟨h, a, b, c⟩ | ⟨h, a, b, c⟩ | ⟨h, a, b, c⟩
    · omega
    · omega
    · rw [n3] at b; cases b
theorem orV_lex (a b c d : Int) : orV [a, b, c, d] = if a = 0 then (if b = 0 then (if c = 0 then d else c) else b) else a := by
  unfold orV; split
  · unfold orV; split
    · unfold orV; split
      · unfold orV orV; split
        · rename_i h; exact h.symm
        · rfl
      · rfl
    · rfl
  · rfl
def orderL : Tm → Tm → Int := lexV (fun x y => cmpI (kindV x) (kindV y)) (lexV (fun x y => cmpS (text0 x) (text0 y)) (lexV (fun x y => cmpS (text1 x) (text1 y)) (fun x y => cmpS (text2 x) (text2 y))))
theorem order_lex (x y : Tm) : orderV x y = orderL x y := by
  unfold orderV orderL lexV
  rw [orV_lex]
theorem ord_term : Ord orderL := (ord_int.comap kindV).lex ((ord_str.comap text0).lex ((ord_str.comap text1).lex (ord_str.comap text2)))
theorem order_anti (x y : Tm) : orderV y x = - orderV x y := by rw [order_lex, order_lex]; exact ord_term.anti x y
theorem order_trans {x y z : Tm} (h : orderV x y ≤ 0) (h' : orderV y z ≤ 0) : orderV x z ≤ 0 := by
  rw [order_lex] at *; exact ord_term.trans x y z h h'
/-- all parts the same -/
def eqR (x y : Tm) : Bool := decide (kindV x = kindV y) && (sameS (text0 x) (text0 y) && (sameS (text1 x) (text1 y) && sameS (text2 x) (text2 y)))
/-- the document's order -/
def lessR (x y : Tm) : Bool :=
  if kindV x = kindV y then (if sameS (text0 x) (text0 y) then (if sameS (text1 x) (text1 y) then lessS (text2 x) (text2 y) else lessS (text1 x) (text1 y)) else lessS (text0 x) (text0 y)) else decide (kindV x < kindV y)
theorem same_cmp (x y : ByteArray) : sameS x y = decide (cmpS x y = 0) := by
  unfold sameS
  rcases cmpS_cases x y with ⟨h, a, b, c⟩ | ⟨h, a, b, c⟩ | ⟨h, a, b, c⟩ <;> rw [h] <;> simp [c]
theorem less_cmp (x y : ByteArray) : lessS x y = decide (cmpS x y = -1) := by
  rcases cmpS_cases x y with ⟨h, a, b, c⟩ | ⟨h, a, b, c⟩ | ⟨h, a, b, c⟩ <;> rw [h, a] <;> rfl
theorem kind_cmp (x y : Int) : (cmpI x y = 0 ↔ x = y) ∧ (cmpI x y = -1 ↔ x < y) := by unfold cmpI; split <;> (try split) <;> omega
theorem order_less (x y : Tm) : lessR x y = decide (orderV x y = -1) := by
  unfold lessR
  rw [order_lex]
  unfold orderL lexV
  have k := kind_cmp (kindV x) (kindV y)
  rw [same_cmp, same_cmp, less_cmp, less_cmp, less_cmp]
  by_cases h0 : kindV x = kindV y
  · rw [if_pos h0, if_pos (k.1.2 h0)]
    by_cases h1 : cmpS (text0 x) (text0 y) = 0
    · rw [if_pos (by simpa using h1), if_pos h1]
      by_cases h2 : cmpS (text1 x) (text1 y) = 0
      · rw [if_pos (by simpa using h2), if_pos h2]
      · rw [if_neg (by simpa using h2), if_neg h2]
    · rw [if_neg (by simpa using h1), if_neg h1]
  · rw [if_neg h0, if_neg (fun h => h0 (k.1.1 h))]
    exact decide_eq_decide.2 k.2.symm
theorem order_eq (x y : Tm) : eqR x y = decide (orderV x y = 0) := by
  unfold eqR
  rw [order_lex]
  unfold orderL lexV
  have k := kind_cmp (kindV x) (kindV y)
  rw [same_cmp, same_cmp, same_cmp]
  by_cases h0 : kindV x = kindV y
  · rw [if_pos (k.1.2 h0), decide_eq_true h0]
    by_cases h1 : cmpS (text0 x) (text0 y) = 0
    · rw [if_pos h1, decide_eq_true h1]
      by_cases h2 : cmpS (text1 x) (text1 y) = 0
      · rw [if_pos h2, decide_eq_true h2]; simp
      · rw [if_neg h2, decide_eq_false h2]; simp [h2]
    · rw [if_neg h1, decide_eq_false h1]; simp [h1]
  · rw [if_neg (fun h => h0 (k.1.1 h)), decide_eq_false h0]
    have : ¬ cmpI (kindV x) (kindV y) = 0 := fun h => h0 (k.1.1 h)
    simp [this]
theorem order_vals (x y : Tm) : orderV x y = -1 ∨ orderV x y = 0 ∨ orderV x y = 1 := by
  have hI : ∀ a b, cmpI a b = -1 ∨ cmpI a b = 0 ∨ cmpI a b = 1 := fun a b => by unfold cmpI; split <;> (try split) <;> omega
  have hS : ∀ a b, cmpS a b = -1 ∨ cmpS a b = 0 ∨ cmpS a b = 1 := fun a b => by rcases cmpS_cases a b with h | h | h <;> simp [h.1]
  rw [order_lex]
  unfold orderL lexV
  have a := hI (kindV x) (kindV y)
  have b := hS (text0 x) (text0 y)
  have c := hS (text1 x) (text1 y)
  have d := hS (text2 x) (text2 y)
  split
  · split
    · split
      · exact d
      · exact c
    · exact b
  · exact a
set_option maxHeartbeats 3200000 in
theorem rless_any (X Y : Tm) (w : World) : Calls Try.prog 32 #[refT X, refT Y] w fun e w' => e = .returned (.bool (lessR X Y)) ∧ Below w.heap.size w w' := by
  unfold lessR refT sameS lessS
  generalize kindV X = k
  generalize kindV Y = k'
  generalize text0 X = s
  generalize text0 Y = s'
  generalize text1 X = t
  generalize text1 Y = t'
  generalize text2 X = l
  generalize text2 Y = l'
  by_cases hk : k = k'
  · rw [if_pos hk]
    subst hk
    cases h0 : s.toList == s'.toList with
    | true =>
      rw [if_pos rfl]
      cases h1 : t.toList == t'.toList with
      | true =>
        rw [if_pos rfl]
        go_enter Try.func32, Try.ntmps32
        go_wp2_with fail
        go_ret
        exact ⟨rfl, by go_grown⟩
      | false =>
        rw [if_neg (by simp)]
        go_enter Try.func32, Try.ntmps32
        go_wp2_with fail
        go_ret
        exact ⟨rfl, by go_grown⟩
    | false =>
      rw [if_neg (by simp)]
      go_enter Try.func32, Try.ntmps32
      go_wp2_with fail
      go_ret
      exact ⟨rfl, by go_grown⟩
  · rw [if_neg hk]
    have h2 : (k != k') = true := by simpa using hk
    clear hk
    go_enter Try.func32, Try.ntmps32
    go_wp2_with fail
    go_ret
    exact ⟨rfl, by go_grown⟩
end Go.Proofs.Ytghimladdioajaa
