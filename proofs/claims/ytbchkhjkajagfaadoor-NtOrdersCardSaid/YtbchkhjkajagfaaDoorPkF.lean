/- Texts of this seat put together: NtPlain NtGap NtOver NtDigits NtIri NtIriW NtLetters NtTail NtForm NtRead NtOverW. -/
import Derived.Test.YtbchkhjkajagfaaDoorScQuoted
import Derived.Test.YtbchkhjkajagfaaDoorTgGood
import Derived.Test.YtbchkhjkajagfaaDoorNtGood
namespace Go.Proofs.YtbchkhjkajagfaaDoor
open Go Go.RowKit
set_option linter.unusedVariables false
/-- the sign at a place; -1: there is none -/
def pk (l : List Int) (i : Nat) : Int := if h : i < l.length then l[i]'h else -1
theorem pk_yes {l : List Int} {i : Nat} (h : i < l.length) : pk l i = l[i]'h := by unfold pk; rw [dif_pos h]
theorem pk_no {l : List Int} {i : Nat} (h : l.length ≤ i) : pk l i = -1 := by unfold pk; rw [dif_neg (by omega)]
theorem pk_lt {l : List Int} {i : Nat} {n : Int} (h : pk l i = n) (hn : n ≠ -1) : i < l.length := by
  by_cases h1 : i < l.length
  · exact h1
  · rw [pk_no (by omega)] at h; exact absurd h.symm hn
theorem pk_sign {l : List Int} (hl : ∀ n ∈ l, SignP n) (i : Nat) : pk l i = -1 ∨ SignP (pk l i) := by
  by_cases h : i < l.length
  · right; rw [pk_yes h]; exact hl _ (List.getElem_mem h)
  · left; exact pk_no (by omega)
theorem pk_ge {l : List Int} (hl : ∀ n ∈ l, SignP n) (i : Nat) : -1 ≤ pk l i ∧ pk l i ≤ 1114111 := by
  rcases pk_sign hl i with h | h
  · rw [h]; exact ⟨by omega, by omega⟩
  · unfold SignP at h; omega
theorem pk_cons (a : Int) (m : List Int) (k : Nat) : pk (a :: m) (k + 1) = pk m k := by
  by_cases h : k < m.length
  · rw [pk_yes h, pk_yes (l := a :: m) (i := k + 1) (by simpa using h)]; rfl
  · rw [pk_no (l := m) (i := k) (by omega), pk_no (l := a :: m) (i := k + 1) (by rw [List.length_cons]; omega)]
theorem pk_zero (a : Int) (m : List Int) : pk (a :: m) 0 = a := by rw [pk_yes (by simp)]; rfl
theorem pk_drop (l : List Int) (p k : Nat) : pk (l.drop p) k = pk l (p + k) := by
  by_cases h : p + k < l.length
  · rw [pk_yes h, pk_yes (l := l.drop p) (i := k) (by rw [List.length_drop]; omega), List.getElem_drop]
  · rw [pk_no (l := l) (i := p + k) (by omega), pk_no (l := l.drop p) (i := k) (by rw [List.length_drop]; omega)]
theorem twm_in (C : Int → Bool) : ∀ (m : List Int) (k : Nat), k < (m.takeWhile C).length → C (pk m k) = true
  | [], k, h => by simp at h
  | a :: m, k, h => by
    rw [List.takeWhile_cons] at h
    split at h
    · rename_i hc
      cases k with
      | zero => rw [pk_zero]; exact hc
      | succ k => rw [pk_cons]; exact twm_in C m k (by simpa using h)
    · simp at h
theorem twm_out (C : Int → Bool) (h0 : C (-1) = false) : ∀ (m : List Int), C (pk m (m.takeWhile C).length) = false
  | [] => by rw [pk_no (by simp)]; exact h0
  | a :: m => by
    rw [List.takeWhile_cons]
    split
    · rw [List.length_cons, pk_cons]; exact twm_out C h0 m
    · rename_i hc; rw [List.length_nil, pk_zero]; simpa using hc
theorem twm_le (C : Int → Bool) (m : List Int) : (m.takeWhile C).length ≤ m.length := List.Sublist.length_le (List.takeWhile_sublist C)
/-- how many signs of a kind follow -/
def twN (C : Int → Bool) (l : List Int) (p : Nat) : Nat := ((l.drop p).takeWhile C).length
theorem twk_in {C : Int → Bool} {l : List Int} {p q : Nat} (h1 : p ≤ q) (h2 : q < p + twN C l p) : C (pk l q) = true := by
  have := twm_in C (l.drop p) (q - p) (by unfold twN at h2; omega)
  rwa [pk_drop, show p + (q - p) = q by omega] at this
theorem twk_out {C : Int → Bool} (h0 : C (-1) = false) (l : List Int) (p : Nat) : C (pk l (p + twN C l p)) = false := by
  have := twm_out C h0 (l.drop p)
  rwa [pk_drop] at this
theorem twk_le {C : Int → Bool} {l : List Int} {p : Nat} (hp : p ≤ l.length) : p + twN C l p ≤ l.length := by
  have := twm_le C (l.drop p)
  rw [List.length_drop] at this
  unfold twN
  omega
/-- an IRI's signs from behind its first mark: how many rounds are left, the place, what is read -/
def iriGo (l : List Int) : Nat → Nat → List Int → Option (List Int) × Nat
  | 0, i, _ => (none, i)
  | f + 1, i, acc =>
    if pk l i = -1 ∨ pk l i = 10 then (none, i)
    else if pk l i = 62 then (some acc, i + 1)
    else if pk l i = 92 then
      (if pk l (i + 1) = 117 then (match numV l 4 (i + 2) 0 with | (some x, j) => iriGo l f j (acc ++ [x]) | (none, j) => (none, j))
       else if pk l (i + 1) = 85 then (match numV l 8 (i + 2) 0 with | (some x, j) => iriGo l f j (acc ++ [x]) | (none, j) => (none, j))
       else (none, i + 1))
    else iriGo l f (i + 1) (acc ++ [pk l i])
def iriT (l : List Int) (i : Nat) : Option (List Int) × Nat := if pk l i = 60 then iriGo l (l.length - i) (i + 1) [] else (none, i)
/-- a sign of a word -/
def wordC (under : Bool) (c : Int) : Bool := decide (classV c = 1) || (decide (classV c = 2) || (decide (c = 45) || (under && decide (c = 95))))
def wordT (l : List Int) (i : Nat) (under : Bool) : List Int × Nat := ((l.drop i).takeWhile (wordC under), i + twN (wordC under) l i)
def ntLang : ByteArray := ⟨#[104, 116, 116, 112, 58, 47, 47, 119, 119, 119, 46, 119, 51, 46, 111, 114, 103, 47, 49, 57, 57, 57, 47, 48, 50, 47, 50, 50, 45, 114, 100, 102, 45, 115, 121, 110, 116, 97, 120, 45, 110, 115, 35, 108, 97, 110, 103, 83, 116, 114, 105, 110, 103]⟩
def ntString : ByteArray := ⟨#[104, 116, 116, 112, 58, 47, 47, 119, 119, 119, 46, 119, 51, 46, 111, 114, 103, 47, 50, 48, 48, 49, 47, 88, 77, 76, 83, 99, 104, 101, 109, 97, 35, 115, 116, 114, 105, 110, 103]⟩
/-- the term that stands at a place, good or not -/
def formT (l : List Int) (i : Nat) : Option Tm × Nat :=
  if pk l i = 60 then ((iriT l i).1.map (fun t => .iri (tBytes t)), (iriT l i).2)
  else if pk l i = 95 then (if pk l (i + 1) = 58 then (some (.blank (tBytes (wordT l (i + 2) true).1)), (wordT l (i + 2) true).2) else (none, i + 1))
  else if pk l i = 34 then
    (match quotedV l i with
     | (none, j) => (none, j)
     | (some t, j) =>
       if pk l j = 94 ∧ pk l (j + 1) = 94 then ((iriT l (j + 2)).1.map (fun y => .lit (tBytes t) (tBytes y) ⟨#[]⟩), (iriT l (j + 2)).2)
       else if pk l j = 64 then (some (.lit (tBytes t) ntLang (tBytes (wordT l (j + 1) false).1)), (wordT l (j + 1) false).2)
       else (some (.lit (tBytes t) ntString ⟨#[]⟩), j))
  else (none, i)
/-- the term read at a place: the term, the place behind it or the error's, the error -/
def readT (G : Tm → Bool) (l : List Int) (i : Nat) : Option Tm × Nat × Int :=
  match formT l i with
  | (none, j) => (none, j, 1)
  | (some X, j) => if G X then (some X, j, 0) else (none, i, 3)
def blankC (c : Int) : Bool := decide (c = 32) || decide (c = 9)
def gapT (l : List Int) (i : Nat) : Nat := i + twN blankC l i
def noteC (c : Int) : Bool := decide (c ≠ 10) && decide (c ≠ -1)
/-- behind spaces, tabs, a note -/
def noteT (l : List Int) (i : Nat) : Nat := if pk l (gapT l i) = 35 then gapT l i + twN noteC l (gapT l i) else gapT l i
/-- the place behind a line's end, and whether it is there -/
def overT (l : List Int) (i : Nat) : Nat × Bool :=
  if pk l (noteT l i) = 13 ∧ pk l (noteT l i + 1) = 10 then (noteT l i + 2, true)
  else if pk l (noteT l i) = 10 then (noteT l i + 1, true)
  else (noteT l i, decide (l.length ≤ noteT l i))
/-- the term of a kind that may stand there; blanks behind are passed over -/
def placeT (G : Tm → Bool) (may : Tm → Bool) (l : List Int) (i : Nat) : Option Tm × Nat × Int :=
  match readT G l i with
  | (none, j, c) => (none, j, c)
  | (some X, j, _) => if may X then (some X, gapT l j, 0) else (none, i, 3)
def maySub (X : Tm) : Bool := decide (kindV X < 2)
def mayPrd (X : Tm) : Bool := decide (kindV X = 1)
def mayAny (_ : Tm) : Bool := true
structure Tri where
  s : Tm
  p : Tm
  o : Tm
/-- the triple at a place: its terms, the place, the error -/
def tripleT (G : Tm → Bool) (l : List Int) (i : Nat) : Option Tri × Nat × Int :=
  match placeT G maySub l i with
  | (none, j, c) => (none, j, c)
  | (some X, j, _) =>
    match placeT G mayPrd l j with
    | (none, j2, c) => (none, j2, c)
    | (some Y, j2, _) =>
      match placeT G mayAny l j2 with
      | (none, j3, c) => (none, j3, c)
      | (some Z, j3, _) => if pk l j3 = 46 then (some ⟨X, Y, Z⟩, j3 + 1, 0) else (none, j3, 1)
/-- the triples of lines, from a place on -/
def parseGo (G : Tm → Bool) (l : List Int) : Nat → Nat → List Tri → List Tri × Nat × Int
  | 0, i, acc => (acc, 0, 0)
  | f + 1, i, acc =>
    if l.length ≤ i then (acc, 0, 0) else
    match overT l i with
    | (j, true) => parseGo G l f j acc
    | (j, false) =>
      match tripleT G l j with
      | (none, k, c) => ([], k, c)
      | (some t, k, _) =>
        match overT l k with
        | (n, true) => parseGo G l f n (acc ++ [t])
        | (n, false) => ([], n, 1)
def parseT (G : Tm → Bool) (l : List Int) : List Tri × Nat × Int := parseGo G l (l.length + 1) 0 []
end Go.Proofs.YtbchkhjkajagfaaDoor
namespace Go.Proofs.YtbchkhjkajagfaaDoor
open Go Go.RowKit
set_option linter.unusedVariables false
set_option linter.unusedSimpArgs false
set_option maxRecDepth 100000
theorem npeek_any {l : List Int} {p X g cap : Nat} {w : World} (h : ScW l p X g cap w) (hb : l.length ≤ 1000000) : Calls Tryd.prog 63 #[.pointer (some ⟨X, 0, none⟩)] w fun e w' => e = .returned (.int .i32 (pk l p)) ∧ Below w.heap.size w w' := by
  by_cases hp : p < l.length
  · rw [pk_yes hp]; exact peek_yes l p X g cap w h hp (by omega)
  · rw [pk_no (by omega)]; exact peek_no l p X g cap w h (by have := h.2.2.2.2.1; omega)
theorem nend_any {l : List Int} {p X g cap : Nat} {w : World} (h : ScW l p X g cap w) : Calls Tryd.prog 43 #[.pointer (some ⟨X, 0, none⟩)] w fun e w' => e = .returned (.bool (decide (l.length ≤ p))) ∧ Below w.heap.size w w' := by
  by_cases hp : p < l.length
  · rw [decide_eq_false (by omega)]; exact end_no l p X g cap w h hp
  · rw [decide_eq_true (by omega)]; exact end_yes l p X g cap w h (by have := h.2.2.2.2.1; omega)
theorem nnext_any {l : List Int} {p X g cap : Nat} {w : World} (h : ScW l p X g cap w) (hp : p < l.length) (hl : ∀ n ∈ l, SignP n) (hb : l.length ≤ 1000000) : Calls Tryd.prog 65 #[.pointer (some ⟨X, 0, none⟩)] w (Moved l (p + 1) X g cap (.int .i32 (pk l p)) w) := by
  rw [pk_yes hp]
  exact next_yes l p X g cap w h hp (by omega) (hl _ (List.getElem_mem hp))
/-- a scanner that was moved on -/
def Sn (l : List Int) (p X g cap : Nat) (w0 w : World) : Prop := ScW l p X g cap w ∧ SK X w0 w
theorem Sn.below {l : List Int} {p X g cap : Nat} {w0 w w' : World} (h : Sn l p X g cap w0 w) (hb : Below w.heap.size w w') : Sn l p X g cap w0 w' :=
  ⟨h.1.keep hb, h.2.trans (SK.below hb (Nat.le_of_lt h.1.lt))⟩
theorem Sn.moved {l : List Int} {p q X g cap : Nat} {w0 w w' : World} {v : Value} {e : Ending} (h : Sn l p X g cap w0 w) (hm : Moved l q X g cap v w e w') : e = .returned v ∧ Sn l q X g cap w0 w' := ⟨hm.1, hm.2.1, h.2.trans hm.2.2⟩
theorem Sn.refl {l : List Int} {p X g cap : Nat} {w : World} (h : ScW l p X g cap w) : Sn l p X g cap w w := ⟨h, SK.refl _ _⟩
set_option maxHeartbeats 1600000 in
theorem gap_any {l : List Int} {p X g cap : Nat} {w : World} (h : ScW l p X g cap w) (hl : ∀ n ∈ l, SignP n) (hb : l.length ≤ 1000000) :
    Calls Tryd.prog 74 #[.pointer (some ⟨X, 0, none⟩)] w (Moved l (gapT l p) X g cap (.tuple #[]) w) := by
  have hp := h.2.2.2.2.1
  have HS := Lib.hid (Sn.refl h)
  have HL := Lib.hid hl
  have HN := Lib.hid (fun q (h1 : p ≤ q) (h2 : q < p + twN blankC l p) => twk_in h1 h2)
  have HO := Lib.hid (twk_out (C := blankC) (by decide) l p)
  have hN := twk_le (C := blankC) hp
  unfold gapT
  obtain ⟨N, hNN⟩ : ∃ N, N = twN blankC l p := ⟨_, rfl⟩
  rw [← hNN] at HN HO hN ⊢
  clear h hl hNN
  go_enter Tryd.func74, Tryd.ntmps74
  go_wp2_with fail
  go_loopg [] N (fun gn wr => ∃ q : Nat, q + gn = p + N ∧ p ≤ q ∧ Hid (Sn l q X g cap w wr))
  case atStart => exact ⟨p, by omega, by omega, HS⟩
  case round =>
    obtain ⟨q, hq, hpq, hS⟩ := hrel
    by_cases hin : q < p + N
    · have hC := HN.out q hpq hin
      have hql : q < l.length := by omega
      have HNX := Lib.hid (fun w1 (h1 : ScW l q X g cap w1) => nnext_any h1 hql HL.out hb)
      have HPK := Lib.hid (fun w1 (h1 : ScW l q X g cap w1) => npeek_any h1 hb)
      obtain ⟨n, hn⟩ : ∃ n, n = pk l q := ⟨_, rfl⟩
      rw [← hn] at hC HNX HPK
      clear hn
      by_cases h32 : n = 32
      · have q1 : (n == 32) = true := by simpa using h32
        clear h32 hC
        go_wp2_with fail
        refine (HPK.out _ hS.out.1).mono ?_
        rintro e w1 ⟨rfl, hb1⟩
        have hS1 := Lib.hid (hS.out.below hb1)
        clear hb1
        go_wp2_with fail
        refine (HNX.out _ hS1.out.1).mono ?_
        intro e w2 hm
        obtain ⟨rfl, hs2⟩ := hS1.out.moved hm
        have hS2 := Lib.hid hs2
        clear hm hs2
        go_wp2_with fail
        go_roundg (gk - 1)
        case measure => omega
        case rel => exact ⟨q + 1, by omega, by omega, hS2⟩
      · have q1 : (n == 32) = false := by simpa using h32
        have q2 : (n == 9) = true := by unfold blankC at hC; simpa [h32] using hC
        clear h32 hC
        go_wp2_with fail
        refine (HPK.out _ hS.out.1).mono ?_
        rintro e w1 ⟨rfl, hb1⟩
        have hS1 := Lib.hid (hS.out.below hb1)
        clear hb1
        go_wp2_with fail
        refine (HPK.out _ hS1.out.1).mono ?_
        rintro e w2 ⟨rfl, hb2⟩
        have hS2 := Lib.hid (hS1.out.below hb2)
        clear hb2
        go_wp2_with fail
        refine (HNX.out _ hS2.out.1).mono ?_
        intro e w3 hm
        obtain ⟨rfl, hs3⟩ := hS2.out.moved hm
        have hS3 := Lib.hid hs3
        clear hm hs3
        go_wp2_with fail
        go_roundg (gk - 1)
        case measure => omega
        case rel => exact ⟨q + 1, by omega, by omega, hS3⟩
    · obtain rfl : q = p + N := by omega
      have hC := HO.out
      have HPK := Lib.hid (fun w1 (h1 : ScW l (p + N) X g cap w1) => npeek_any h1 hb)
      obtain ⟨n, hn⟩ : ∃ n, n = pk l (p + N) := ⟨_, rfl⟩
      rw [← hn] at hC HPK
      have q1 : (n == 32) = false := by
        unfold blankC at hC
        simp only [Bool.or_eq_false_iff, decide_eq_false_iff_not] at hC
        simpa using hC.1
      have q2 : (n == 9) = false := by
        unfold blankC at hC
        simp only [Bool.or_eq_false_iff, decide_eq_false_iff_not] at hC
        simpa using hC.2
      clear hn hC
      go_wp2_with fail
      refine (HPK.out _ hS.out.1).mono ?_
      rintro e w1 ⟨rfl, hb1⟩
      have hS1 := Lib.hid (hS.out.below hb1)
      clear hb1
      go_wp2_with fail
      refine (HPK.out _ hS1.out.1).mono ?_
      rintro e w2 ⟨rfl, hb2⟩
      have hS2 := Lib.hid (hS1.out.below hb2)
      clear hb2
      go_wp2_with fail
      refine bodyPost_ret (v := .tuple #[]) (by simp [results, Tryd.results74, go_sem]) rfl ?_
      exact ⟨rfl, hS2.out.1, hS2.out.2⟩
end Go.Proofs.YtbchkhjkajagfaaDoor
namespace Go.Proofs.YtbchkhjkajagfaaDoor
open Go Go.RowKit
set_option linter.unusedVariables false
set_option linter.unusedSimpArgs false
set_option maxRecDepth 100000
theorem take1_pk {l : List Int} {p : Nat} {c : Int} (hc : c ≠ -1) : (l.drop p).take 1 = [c] ↔ pk l p = c := by
  by_cases h : p < l.length
  · rw [pk_yes h, List.drop_eq_getElem_cons h, List.take_succ_cons, List.take_zero]
    constructor
    · intro e; injection e
    · intro e; rw [e]
  · rw [pk_no (by omega), List.drop_eq_nil_of_le (by omega)]
    constructor
    · intro e; cases e
    · intro e; exact absurd e.symm hc
theorem take2_pk {l : List Int} {p : Nat} {a b : Int} (ha : a ≠ -1) (hb : b ≠ -1) : (l.drop p).take 2 = [a, b] ↔ (pk l p = a ∧ pk l (p + 1) = b) := by
  by_cases h : p < l.length
  · rw [pk_yes h, List.drop_eq_getElem_cons h, List.take_succ_cons]
    have := take1_pk (l := l) (p := p + 1) hb
    constructor
    · intro e
      injection e with e1 e2
      exact ⟨e1, this.1 e2⟩
    · rintro ⟨e1, e2⟩
      rw [e1, this.2 e2]
  · rw [pk_no (by omega), List.drop_eq_nil_of_le (by omega)]
    constructor
    · intro e; cases e
    · intro e; exact absurd e.1.symm ha
/-- does one sign follow -/
theorem is1_any {l : List Int} {p X g cap : Nat} {w : World} (c : UInt8) (hc : c.toNat < 128) (h : ScW l p X g cap w) (hl : ∀ n ∈ l, SignP n) (hb : l.length ≤ 1000000) :
    Calls Tryd.prog 66 #[.pointer (some ⟨X, 0, none⟩), .string ⟨#[c]⟩] w (Moved l (if pk l p = (c.toNat : Int) then p + 1 else p) X g cap (.bool (decide (pk l p = (c.toNat : Int)))) w) := by
  have hr : Read (⟨#[c]⟩ : ByteArray).data.toList [(c.toNat : Int)] [] := by
    refine ⟨?_, ?_, noSign_nil⟩
    · rw [textB_one]
      have hz := enc_bz (c.toNat : Int)
      unfold enc
      unfold Lib.encodeRune
      unfold Lib.encodeRuneZ
      rw [if_pos (by omega)]
      simp
    · intro n hn
      rw [List.mem_singleton] at hn
      subst hn
      left
      omega
  have := is_any ⟨#[c]⟩ [(c.toNat : Int)] l p X g cap w hr (by show (1 : Nat) ≤ _; decide) h hl hb
  have e := take1_pk (l := l) (p := p) (c := (c.toNat : Int)) (by omega)
  rw [show ([(c.toNat : Int)] : List Int).length = 1 from rfl] at this
  have e2 : decide ((l.drop p).take 1 = [(c.toNat : Int)]) = decide (pk l p = (c.toNat : Int)) := by simp only [e]
  have e3 : (if (l.drop p).take 1 = [(c.toNat : Int)] then p + 1 else p) = (if pk l p = (c.toNat : Int) then p + 1 else p) := by simp only [e]
  rw [e2, e3] at this
  exact this
end Go.Proofs.YtbchkhjkajagfaaDoor
namespace Go.Proofs.YtbchkhjkajagfaaDoor
open Go Go.RowKit
set_option linter.unusedVariables false
set_option linter.unusedSimpArgs false
set_option maxRecDepth 100000
theorem numV_pk (l : List Int) (k i : Nat) (s : Int) : numV l (k + 1) i s = if hexV (pk l i) < 0 then (none, i) else numV l k (i + 1) (s * 16 + hexV (pk l i)) := by
  rw [numV]
  by_cases h : i < l.length
  · rw [dif_pos h, pk_yes h]
  · rw [dif_neg h, pk_no (by omega), if_pos (by decide)]
theorem pow16 (k : Nat) (h : k ≤ 8) : (16 : Int) ^ k ≤ 4294967296 := by
  rcases (by omega : k = 0 ∨ k = 1 ∨ k = 2 ∨ k = 3 ∨ k = 4 ∨ k = 5 ∨ k = 6 ∨ k = 7 ∨ k = 8) with rfl | rfl | rfl | rfl | rfl | rfl | rfl | rfl | rfl <;> decide
/-- what the law of digits tells -/
def DigEnd (l : List Int) (X g cap : Nat) (w : World) (R : Option Int × Nat) (e : Ending) (w' : World) : Prop :=
  e = .returned (.tuple #[.int .i32 (R.1.getD 0), .bool R.1.isSome]) ∧ ScW l R.2 X g cap w' ∧ SK X w w'
set_option maxHeartbeats 3200000 in
theorem digits_any {l : List Int} {p X g cap : Nat} {w : World} (many : Nat) (hm : 1 ≤ many ∧ many ≤ 8) (h : ScW l p X g cap w) (hl : ∀ n ∈ l, SignP n) (hb : l.length ≤ 1000000) :
    Calls Tryd.prog 85 #[.pointer (some ⟨X, 0, none⟩), .int .i64 many] w (DigEnd l X g cap w (numV l many p 0)) := by
  obtain ⟨hm1, hm8⟩ := hm
  have hp := h.2.2.2.2.1
  have HS := Lib.hid (Sn.refl h)
  have HL := Lib.hid hl
  obtain ⟨R, hR⟩ : ∃ R, R = numV l many p 0 := ⟨_, rfl⟩
  rw [← hR]
  have HR := Lib.hid hR
  clear h hl hR
  go_enter Tryd.func85, Tryd.ntmps85
  go_wp2_with fail
  refine (place_any l p X g cap _ HS.out.1).mono ?_
  rintro e w1 ⟨rfl, rfl⟩
  go_wp2_with fail
  go_loopw [6, 7, 12] (fun vn vl i wr => ∃ (k : Nat) (s : Int), k ≤ many ∧ p + k ≤ l.length ∧ i = .int .i64 k ∧ vn = .int .i64 s ∧ (∃ vq : Int, vl = .int .i64 vq ∧ vq = (if k = 0 then (p : Int) else ((p + k - 1 : Nat) : Int))) ∧ 0 ≤ s ∧ s < (16 : Int) ^ k ∧ Hid (numV l (many - k) (p + k) s = R) ∧ Hid (Sn l (p + k) X g cap w wr)) (fun _ _ i _ => many - (intOf i).toNat)
  case atStart => exact ⟨0, 0, by omega, by omega, rfl, rfl, ⟨_, rfl, rfl⟩, by omega, by simp, Lib.hid HR.out.symm, HS⟩
  case round =>
    obtain ⟨k, s, hk, hpk, rfl, rfl, ⟨vq, rfl, hvq⟩, hs0, hs1, hN, hS⟩ := hrel
    have HVQ := Lib.hid hvq
    clear hvq
    by_cases hlt : k < many
    · have HPK := Lib.hid (fun w1 (h1 : ScW l (p + k) X g cap w1) => npeek_any h1 hb)
      have hge := pk_ge HL.out (p + k)
      have HPN := Lib.hid (fun (h1 : ¬ hexV (pk l (p + k)) < 0) => show p + k < l.length from by
        by_cases h2 : p + k < l.length
        · exact h2
        · rw [pk_no (by omega)] at h1; exact absurd (by decide) h1)
      have HST : Hid (numV l (many - k) (p + k) s = if hexV (pk l (p + k)) < 0 then (none, p + k) else numV l (many - (k + 1)) (p + (k + 1)) (s * 16 + hexV (pk l (p + k)))) := Lib.hid (by
        rw [show many - k = (many - (k + 1)) + 1 by omega, numV_pk]; rfl)
      have HNX := Lib.hid (fun w1 (hlt : p + k < l.length) (h1 : ScW l (p + k) X g cap w1) => nnext_any h1 hlt HL.out hb)
      obtain ⟨n, hn⟩ : ∃ n, n = pk l (p + k) := ⟨_, rfl⟩
      rw [← hn] at HPK HPN HST HNX hge
      clear hn
      obtain ⟨d, hd⟩ : ∃ d, d = hexV n := ⟨_, rfl⟩
      have hdl : -1 ≤ d ∧ d ≤ 15 := by rw [hd]; exact hexV_lt n
      have HHX := Lib.hid (fun w1 => hex_any n w1 (by omega) (by omega))
      rw [← hd] at HHX HPN HST
      clear hd
      by_cases hneg : d < 0
      · have q1 : decide (d < 0) = true := decide_eq_true hneg
        have hRR : R = (none, p + k) := by rw [← hN.out, HST.out, if_pos hneg]
        have HRR := Lib.hid hRR
        clear hRR hneg hN HST
        go_wp2_with fail
        refine (HPK.out _ hS.out.1).mono ?_
        rintro e w2 ⟨rfl, hb2⟩
        have hS2 := Lib.hid (hS.out.below hb2)
        clear hb2
        go_wp2_with fail
        refine (HHX.out _).mono ?_
        rintro e w3 ⟨rfl, rfl⟩
        go_wp2_with fail
        go_ret2
        unfold DigEnd
        rw [HRR.out]
        exact ⟨rfl, hS2.out.1, hS2.out.2⟩
      · have q1 : decide (d < 0) = false := decide_eq_false hneg
        have hpl := HPN.out hneg
        have HN2 : Hid (numV l (many - (k + 1)) (p + (k + 1)) (s * 16 + d) = R) := Lib.hid (by rw [← hN.out, HST.out, if_neg hneg])
        have hpw := pow16 k (by omega)
        have hd0 : 0 ≤ d := by omega
        have hd15 := hdl.2
        have hs16 : (16 : Int) * s ≤ 68719476736 := by omega
        have HPW : Hid (16 * s + d < (16 : Int) ^ (k + 1)) := Lib.hid (by rw [Int.pow_succ]; omega)
        clear hneg hN HST
        go_wp2_with fail
        refine (HPK.out _ hS.out.1).mono ?_
        rintro e w2 ⟨rfl, hb2⟩
        have hS2 := Lib.hid (hS.out.below hb2)
        clear hb2
        go_wp2_with fail
        refine (HHX.out _).mono ?_
        rintro e w3 ⟨rfl, rfl⟩
        go_wp2_with fail
        refine (place_any l (p + k) X g cap _ hS2.out.1).mono ?_
        rintro e w4 ⟨rfl, rfl⟩
        go_wp2_with fail
        refine (HNX.out _ hpl hS2.out.1).mono ?_
        intro e w5 hmv
        obtain ⟨rfl, hs5⟩ := hS2.out.moved hmv
        have hS5 := Lib.hid hs5
        clear hmv hs5
        go_wp2_with fail
        refine ⟨⟨k + 1, 16 * s + d, by omega, by omega, by push_cast; rfl, ?_, ⟨((p + k : Nat) : Int), ?_, ?_⟩, by omega, HPW.out, Lib.hid ?_, hS5⟩, by simp only [intOf]; omega⟩
        · rfl
        · push_cast
          rfl
        · rw [if_neg (by omega)]
          congr 1
        · have := HN2.out
          rwa [show s * 16 + d = 16 * s + d by omega] at this
    · obtain rfl : k = many := by omega
      have hNN := hN.out
      rw [Nat.sub_self] at hNN
      unfold numV at hNN
      have HNN := Lib.hid hNN
      clear hNN hN
      have HBK := Lib.hid (fun w1 (h1 : ScW l (p + k) X g cap w1) => back_yes l (p + k) (p + k - 1) X g cap w1 h1 (by omega))
      have hvq := HVQ.out
      rw [if_neg (by omega)] at hvq
      subst hvq
      have hpw := pow16 k (by omega)
      have hs2 : s ≤ 4294967296 := by omega
      clear hpw hs1 HVQ
      by_cases hbig : 1114111 < s
      · have q1 : decide (s > 1114111) = true := decide_eq_true hbig
        have q2 : decide (1114111 < s) = true := decide_eq_true hbig
        have hns : ¬ SignP s := by unfold SignP; omega
        have HRR : Hid (R = (none, p + k - 1)) := Lib.hid (by rw [← HNN.out, if_neg hns])
        clear hbig hns
        go_wp2_with fail
        refine (HBK.out _ hS.out.1).mono ?_
        intro e w5 hmv
        obtain ⟨rfl, hs5⟩ := hS.out.moved hmv
        have hS5 := Lib.hid hs5
        clear hmv hs5
        go_wp2_with fail
        go_ret2
        unfold DigEnd
        rw [HRR.out]
        exact ⟨rfl, hS5.out.1, hS5.out.2⟩
      · have q1 : decide (s > 1114111) = false := decide_eq_false hbig
        have q2 : decide (1114111 < s) = false := decide_eq_false hbig
        have hs3 : s ≤ 1114111 := by omega
        have HCL := Lib.hid (fun w1 => class_any s w1 (by omega) (by omega))
        by_cases hsg : SignP s
        · have HRR : Hid (R = (some s, p + k)) := Lib.hid (by rw [← HNN.out, if_pos hsg])
          have h6 : classV s ≠ 6 := by unfold classV; rw [if_neg (not_not_intro hsg)]; (repeat' split) <;> omega
          have q3 : (classV s == 6) = false := by simpa using h6
          obtain ⟨cv, hcv⟩ : ∃ v, v = classV s := ⟨_, rfl⟩
          rw [← hcv] at HCL q3
          clear hbig hsg h6 hcv
          go_wp2_with fail
          refine (HCL.out _).mono ?_
          rintro e w4 ⟨rfl, rfl⟩
          go_wp2_with fail
          go_ret2
          unfold DigEnd
          rw [HRR.out]
          exact ⟨rfl, hS.out.1, hS.out.2⟩
        · have HRR : Hid (R = (none, p + k - 1)) := Lib.hid (by rw [← HNN.out, if_neg hsg])
          have h6 : classV s = 6 := class_bad hsg
          rw [h6] at HCL
          clear hbig hsg h6
          go_wp2_with fail
          refine (HCL.out _).mono ?_
          rintro e w4 ⟨rfl, rfl⟩
          go_wp2_with fail
          refine (HBK.out _ hS.out.1).mono ?_
          intro e w5 hmv
          obtain ⟨rfl, hs5⟩ := hS.out.moved hmv
          have hS5 := Lib.hid hs5
          clear hmv hs5
          go_wp2_with fail
          go_ret2
          unfold DigEnd
          rw [HRR.out]
          exact ⟨rfl, hS5.out.1, hS5.out.2⟩
end Go.Proofs.YtbchkhjkajagfaaDoor
namespace Go.Proofs.YtbchkhjkajagfaaDoor
open Go Go.RowKit
set_option linter.unusedVariables false
set_option linter.unusedSimpArgs false
set_option maxRecDepth 100000
abbrev BdAt (B : Nat) (bs : List UInt8) (w : World) : Prop := Lib.IsBuilderF 111 5 B B (Lib.byteCells bs) w
theorem bdat_same {B : Nat} {p : Value} {bs : List Value} {w w' : World} (h : Lib.BuilderAtF 111 5 B B p bs w) (hk : ∀ k, B ≤ k → k < w.heap.size → w'.heap[k]? = w.heap[k]?) : Lib.BuilderAtF 111 5 B B p bs w' := by
  have hlt := h.lt
  obtain ⟨hB, v, hb, hown, hne⟩ := h
  refine ⟨hB, v, (hk B (Nat.le_refl _) hlt).trans hb, ⟨hown.1, ?_⟩, hne⟩
  rcases hown.2 with hn | ⟨g, cap, cur, fz, rfl, hbg, hg, rest⟩
  · exact .inl hn
  · exact .inr ⟨g, cap, cur, fz, rfl, hbg, (hk g hbg (lt_of_block hg)).trans hg, rest⟩
theorem BdAt.same {B : Nat} {bs : List UInt8} {w w' : World} (h : BdAt B bs w) (hk : ∀ k, B ≤ k → k < w.heap.size → w'.heap[k]? = w.heap[k]?) : BdAt B bs w' :=
  h.elim (fun x => .inl (bdat_same x hk)) (fun x => .inr (bdat_same x hk))
theorem BdAt.lt {B : Nat} {bs : List UInt8} {w : World} (h : BdAt B bs w) : B < w.heap.size := h.elim (fun x => x.lt) (fun x => x.lt)
/-- a scanner moved on, beside a builder made behind it -/
def SB (l : List Int) (q X g cap : Nat) (w0 : World) (bs : List UInt8) (w : World) : Prop := Sn l q X g cap w0 w ∧ BdAt w0.heap.size bs w ∧ X < w0.heap.size ∧ g < w0.heap.size
section
variable {l : List Int} {q q' X g cap : Nat} {w0 w w' : World} {bs bs' : List UInt8}
theorem SB.start (h : ScW l q X g cap w0) : SB l q X g cap w0 [] (w0.alloc (.cells #[.pointer none, .slice none 0 0] 111)) :=
  ⟨(Sn.refl h).below ((Below.refl _ _).alloc (Nat.le_refl _) _), Lib.IsBuilderF.of (Lib.fresh_isBuilder 111 5 w0), h.lt, h.2.2.2.2.2⟩
theorem SB.scan (h : SB l q X g cap w0 bs w) (hs : ScW l q' X g cap w') (hk : SK X w w') : SB l q' X g cap w0 bs w' :=
  ⟨⟨hs, h.1.2.trans hk⟩, h.2.1.same (fun k h1 h2 => hk.2 k h2 (by have := h.2.2.1; omega)), h.2.2⟩
theorem SB.below (h : SB l q X g cap w0 bs w) (hb : Below w.heap.size w w') : SB l q X g cap w0 bs w' := h.scan (h.1.1.keep hb) (SK.below hb (Nat.le_of_lt h.1.1.lt))
theorem SB.moved {v : Value} {e : Ending} (h : SB l q X g cap w0 bs w) (hm : Moved l q' X g cap v w e w') : e = .returned v ∧ SB l q' X g cap w0 bs w' := ⟨hm.1, h.scan hm.2.1 hm.2.2⟩
theorem SB.size (h : SB l q X g cap w0 bs w) : w0.heap.size ≤ w.heap.size := Nat.le_of_lt h.2.1.lt
theorem SB.build (h : SB l q X g cap w0 bs w) (hb : BuilderW w0.heap.size w0.heap.size (Lib.byteCells bs') w w') : SB l q X g cap w0 bs' w' := by
  have hX := h.2.2.1
  have hg := h.2.2.2
  refine ⟨⟨h.1.1.same (hb.2.1.block X hX) (hb.2.1.block g hg) hb.2.1.size, h.1.2.1.trans (hb.2.1.mono (Nat.le_of_lt hX)), fun k hk hne => (hb.2.1.block k hk).trans (h.1.2.2 k hk hne)⟩, .inr hb.1, h.2.2⟩
theorem SB.fin (h : SB l q X g cap w0 bs w) (hb : Below w0.heap.size w w') : ScW l q X g cap w' ∧ SK X w0 w' := by
  have hX := h.2.2.1
  exact ⟨h.1.1.same (hb.block X hX) (hb.block g h.2.2.2) hb.size, h.1.2.1.trans (hb.mono (Nat.le_of_lt hX)), fun k hk hne => (hb.block k hk).trans (h.1.2.2 k hk hne)⟩
end
/-- what the law of iri tells -/
def IriEnd (l : List Int) (X g cap : Nat) (w : World) (R : Option (List Int) × Nat) (e : Ending) (w' : World) : Prop :=
  e = .returned (.tuple #[.string (tBytes (R.1.getD [])), .bool R.1.isSome]) ∧ ScW l R.2 X g cap w' ∧ SK X w w'
theorem iri_step (l : List Int) (f i : Nat) (acc : List Int) : iriGo l (f + 1) i acc =
    if pk l i = -1 ∨ pk l i = 10 then (none, i)
    else if pk l i = 62 then (some acc, i + 1)
    else if pk l i = 92 then
      (if pk l (i + 1) = 117 then (match numV l 4 (i + 2) 0 with | (some x, j) => iriGo l f j (acc ++ [x]) | (none, j) => (none, j))
       else if pk l (i + 1) = 85 then (match numV l 8 (i + 2) 0 with | (some x, j) => iriGo l f j (acc ++ [x]) | (none, j) => (none, j))
       else (none, i + 1))
    else iriGo l f (i + 1) (acc ++ [pk l i]) := rfl
theorem enc_snoc (acc : List Int) (x : Int) : textB acc ++ enc x = textB (acc ++ [x]) := by rw [textB_append, textB_one]
end Go.Proofs.YtbchkhjkajagfaaDoor
namespace Go.Proofs.YtbchkhjkajagfaaDoor
open Go Go.RowKit
set_option linter.unusedVariables false
set_option linter.unusedSimpArgs false
set_option maxRecDepth 100000
theorem is1_yes {l : List Int} {p X g cap : Nat} {w : World} (c : UInt8) (n : Int) (hn : (c.toNat : Int) = n) (hc : c.toNat < 128) (h : ScW l p X g cap w) (hl : ∀ n ∈ l, SignP n) (hb : l.length ≤ 1000000) (hp : pk l p = n) :
    Calls Tryd.prog 66 #[.pointer (some ⟨X, 0, none⟩), .string ⟨#[c]⟩] w (Moved l (p + 1) X g cap (.bool true) w) := by
  have := is1_any c hc h hl hb
  rw [hn, if_pos hp, decide_eq_true hp] at this
  exact this
theorem is1_no {l : List Int} {p X g cap : Nat} {w : World} (c : UInt8) (n : Int) (hn : (c.toNat : Int) = n) (hc : c.toNat < 128) (h : ScW l p X g cap w) (hl : ∀ n ∈ l, SignP n) (hb : l.length ≤ 1000000) (hp : pk l p ≠ n) :
    Calls Tryd.prog 66 #[.pointer (some ⟨X, 0, none⟩), .string ⟨#[c]⟩] w (Moved l p X g cap (.bool false) w) := by
  have := is1_any c hc h hl hb
  rw [hn, if_neg hp, decide_eq_false hp] at this
  exact this
set_option maxHeartbeats 6400000 in
theorem niri_any {l : List Int} {p X g cap : Nat} {w : World} (h : ScW l p X g cap w) (hl : ∀ n ∈ l, SignP n) (hb : l.length ≤ 1000000) :
    Calls Tryd.prog 64 #[.pointer (some ⟨X, 0, none⟩)] w (IriEnd l X g cap w (iriT l p)) := by
  have hp := h.2.2.2.2.1
  have HL := Lib.hid hl
  have HI := Lib.hid (is1_any 60 (by decide) h hl hb)
  have HS := Lib.hid h
  obtain ⟨R, hR⟩ : ∃ R, R = iriT l p := ⟨_, rfl⟩
  rw [← hR]
  unfold iriT at hR
  clear h hl
  by_cases h60 : pk l p = 60
  · have hpl : p < l.length := pk_lt h60 (by decide)
    rw [if_pos h60] at hR
    have HR := Lib.hid hR
    rw [show ((60 : UInt8).toNat : Int) = 60 from rfl, if_pos h60, decide_eq_true h60] at HI
    clear h60 hR
    go_enter Tryd.func64, Tryd.ntmps64
    go_wp2_with fail
    refine HI.out.mono ?_
    intro e w1 hmv
    obtain ⟨rfl, hs1⟩ := (Sn.refl HS.out).moved hmv
    have HS1 := Lib.hid hs1
    clear hmv hs1
    go_wp2_with fail
    have hst : SB l (p + 1) X g cap w1 [] (w1.alloc (.cells #[.pointer none, .slice none 0 0] 111)) := SB.start HS1.out.1
    have HST0 := Lib.hid hst
    clear hst
    go_loopg [] (l.length - (p + 1)) (fun gn wr => ∃ (q f : Nat) (acc : List Int), q + gn = l.length ∧ l.length - q + 1 ≤ f ∧ acc.length ≤ q ∧ Hid (iriGo l f q acc = R) ∧ Hid (SB l q X g cap w1 (textB acc) wr))
    case atStart => exact ⟨p + 1, l.length - p, [], by omega, by omega, by simp, Lib.hid HR.out.symm, HST0⟩
    case round =>
      obtain ⟨q, f', acc, hq, hf, hacc, hG, hS⟩ := hrel
      obtain ⟨f, rfl⟩ : ∃ f, f' = f + 1 := ⟨f' - 1, by omega⟩
      have HST := Lib.hid (iri_step l f q acc)
      have HEN := Lib.hid (fun w2 (h1 : ScW l q X g cap w2) => nend_any h1)
      by_cases hend : l.length ≤ q
      · have hpk := pk_no hend
        have HRR : Hid (R = (none, q)) := Lib.hid (by rw [← hG.out, HST.out, if_pos (.inl hpk)])
        rw [decide_eq_true hend] at HEN
        clear hpk hend hG HST
        go_wp2_with fail
        refine (HEN.out _ hS.out.1.1).mono ?_
        rintro e w2 ⟨rfl, hb2⟩
        have hS2 := Lib.hid (hS.out.below hb2)
        clear hb2
        go_wp2_with fail
        go_ret2
        unfold IriEnd
        rw [HRR.out]
        exact ⟨rfl, hS2.out.1.1, HS1.out.2.trans hS2.out.1.2⟩
      have hql : q < l.length := by omega
      rw [decide_eq_false hend] at HEN
      have HPK := Lib.hid (fun w2 (h1 : ScW l q X g cap w2) => npeek_any h1 hb)
      have hsg : SignP (pk l q) := by rw [pk_yes hql]; exact HL.out _ (List.getElem_mem hql)
      have hne : pk l q ≠ -1 := by unfold SignP at hsg; omega
      by_cases h10 : pk l q = 10
      · have HRR : Hid (R = (none, q)) := Lib.hid (by rw [← hG.out, HST.out, if_pos (.inr h10)])
        rw [h10] at HPK
        clear hend hsg hne h10 hG HST
        go_wp2_with fail
        refine (HEN.out _ hS.out.1.1).mono ?_
        rintro e w2 ⟨rfl, hb2⟩
        have hS2 := Lib.hid (hS.out.below hb2)
        clear hb2
        go_wp2_with fail
        refine (HPK.out _ hS2.out.1.1).mono ?_
        rintro e w3 ⟨rfl, hb3⟩
        have hS3 := Lib.hid (hS2.out.below hb3)
        clear hb3
        go_wp2_with fail
        go_ret2
        unfold IriEnd
        rw [HRR.out]
        exact ⟨rfl, hS3.out.1.1, HS1.out.2.trans hS3.out.1.2⟩
      have q10 : (pk l q == 10) = false := by simpa using h10
      have I62n := Lib.hid (fun w2 (h1 : ScW l q X g cap w2) (h2 : pk l q ≠ 62) => is1_no 62 62 rfl (by decide) h1 HL.out hb h2)
      have I92n := Lib.hid (fun w2 (h1 : ScW l q X g cap w2) (h2 : pk l q ≠ 92) => is1_no 92 92 rfl (by decide) h1 HL.out hb h2)
      have hor : ¬ (pk l q = -1 ∨ pk l q = 10) := by omega
      by_cases h62 : pk l q = 62
      · have HRR : Hid (R = (some acc, q + 1)) := Lib.hid (by rw [← hG.out, HST.out, if_neg hor, if_pos h62])
        have I62 := Lib.hid (fun w2 (h1 : ScW l q X g cap w2) => is1_yes 62 62 rfl (by decide) h1 HL.out hb h62)
        rw [h62] at HPK
        clear hend hsg hne h10 hor h62 hG HST q10
        go_wp2_with fail
        refine (HEN.out _ hS.out.1.1).mono ?_
        rintro e w2 ⟨rfl, hb2⟩
        have hS2 := Lib.hid (hS.out.below hb2)
        clear hb2
        go_wp2_with fail
        refine (HPK.out _ hS2.out.1.1).mono ?_
        rintro e w3 ⟨rfl, hb3⟩
        have hS3 := Lib.hid (hS2.out.below hb3)
        clear hb3
        go_wp2_with fail
        refine (I62.out _ hS3.out.1.1).mono ?_
        intro e w4 hmv
        obtain ⟨rfl, hs4⟩ := hS3.out.moved hmv
        have hS4 := Lib.hid hs4
        clear hmv hs4
        go_wp2_with fail
        refine (Tryd.Builder_String_any_k w1.heap.size w1.heap.size (textB acc) _ hS4.out.2.1 hS4.out.size).mono ?_
        rintro e w5 ⟨rfl, _, hb5, _⟩
        have hF := Lib.hid (hS4.out.fin hb5)
        clear hb5
        go_wp2_with fail
        go_ret2
        unfold IriEnd
        rw [HRR.out]
        exact ⟨rfl, hF.out.1, HS1.out.2.trans hF.out.2⟩
      have I62 := Lib.hid (fun w2 h1 => I62n.out w2 h1 h62)
      by_cases h92 : pk l q = 92
      · have HST2 : Hid (iriGo l (f + 1) q acc = (if pk l (q + 1) = 117 then (match numV l 4 (q + 2) 0 with | (some x, j) => iriGo l f j (acc ++ [x]) | (none, j) => (none, j))
            else if pk l (q + 1) = 85 then (match numV l 8 (q + 2) 0 with | (some x, j) => iriGo l f j (acc ++ [x]) | (none, j) => (none, j))
            else (none, q + 1))) := Lib.hid (by rw [HST.out, if_neg hor, if_neg h62, if_pos h92] <;> rfl)
        have I92 := Lib.hid (fun w2 (h1 : ScW l q X g cap w2) => is1_yes 92 92 rfl (by decide) h1 HL.out hb h92)
        have I117n := Lib.hid (fun w2 (h1 : ScW l (q + 1) X g cap w2) (h2 : pk l (q + 1) ≠ 117) => is1_no 117 117 rfl (by decide) h1 HL.out hb h2)
        have I85n := Lib.hid (fun w2 (h1 : ScW l (q + 1) X g cap w2) (h2 : pk l (q + 1) ≠ 85) => is1_no 85 85 rfl (by decide) h1 HL.out hb h2)
        rw [h92] at HPK
        clear hend hsg hne h10 hor h62 h92 HST q10
        by_cases h117 : pk l (q + 1) = 117
        · have hq2 : q + 2 ≤ l.length := by have := pk_lt h117 (by decide); omega
          have HST : Hid (iriGo l (f + 1) q acc = (match numV l 4 (q + 2) 0 with | (some x, j) => iriGo l f j (acc ++ [x]) | (none, j) => (none, j))) := Lib.hid (by rw [HST2.out, if_pos h117])
          have I117 := Lib.hid (fun w2 (h1 : ScW l (q + 1) X g cap w2) => is1_yes 117 117 rfl (by decide) h1 HL.out hb h117)
          clear h117 HST2
          go_wp2_with fail
          refine (HEN.out _ hS.out.1.1).mono ?_
          rintro e w2 ⟨rfl, hb2⟩
          have hS2 := Lib.hid (hS.out.below hb2)
          clear hb2
          go_wp2_with fail
          refine (HPK.out _ hS2.out.1.1).mono ?_
          rintro e w3 ⟨rfl, hb3⟩
          have hS3 := Lib.hid (hS2.out.below hb3)
          clear hb3
          go_wp2_with fail
          refine (I62.out _ hS3.out.1.1).mono ?_
          intro e w4 hmv
          obtain ⟨rfl, hs4⟩ := hS3.out.moved hmv
          have hS4 := Lib.hid hs4
          clear hmv hs4
          go_wp2_with fail
          refine (I92.out _ hS4.out.1.1).mono ?_
          intro e w5 hmv
          obtain ⟨rfl, hs5⟩ := hS4.out.moved hmv
          have hS5 := Lib.hid hs5
          clear hmv hs5
          go_wp2_with fail
          refine (I117.out _ hS5.out.1.1).mono ?_
          intro e w6 hmv
          obtain ⟨rfl, hs6⟩ := hS5.out.moved hmv
          have hS6 := Lib.hid hs6
          clear hmv hs6
          go_wp2_with fail
          refine (digits_any 4 (by omega) hS6.out.1.1 HL.out hb).mono ?_
          intro e w9 hdg
          obtain ⟨rfl, hs9, hk9⟩ := hdg
          have hS9 := Lib.hid (hS6.out.scan hs9 hk9)
          have HNV := Lib.hid (fun x j (h : numV l 4 (q + 2) 0 = (some x, j)) => numV_some l 4 (q + 2) 0 x j h)
          clear hs9 hk9
          cases hnv : numV l 4 (q + 2) 0 with
          | mk o j =>
            rw [hnv] at hS9 HST
            dsimp only at hS9 HST
            cases o with
            | none =>
              have HRR : Hid (R = (none, j)) := Lib.hid (by rw [← hG.out, HST.out])
              clear hnv HST hG
              simp only [Option.getD_none, Option.isSome_none]
              go_wp2_with fail
              go_ret2
              unfold IriEnd
              rw [HRR.out]
              exact ⟨rfl, hS9.out.1.1, HS1.out.2.trans hS9.out.1.2⟩
            | some x =>
              have hx := HNV.out x j hnv
              have hx1 := hx.1
              have hx2 := hx.2.1 (by omega)
              have HG2 : Hid (iriGo l f j (acc ++ [x]) = R) := Lib.hid (by rw [← hG.out, HST.out])
              have HWR := Lib.hid (fun w2 (h1 : BdAt w1.heap.size (textB acc) w2) (h2 : w1.heap.size ≤ w2.heap.size) => writeRune_any w1.heap.size w1.heap.size (Lib.byteCells (textB acc)) x hx.2.2 w2 h1 (by rw [Lib.byteCells_length]; have := textB_le acc; omega) h2)
              clear hx hnv HST hG
              simp only [Option.getD_some, Option.isSome_some]
              go_wp2_with fail
              refine (HWR.out _ hS9.out.2.1 hS9.out.size).mono ?_
              rintro e w10 ⟨rfl, hw10⟩
              rw [cells_rune, enc_snoc] at hw10
              have hS10 := Lib.hid (hS9.out.build hw10)
              clear hw10
              go_wp2_with fail
              go_roundg (l.length - j)
              case measure => omega
              case rel => exact ⟨j, f, acc ++ [x], by omega, by omega, by rw [List.length_append, List.length_singleton]; omega, HG2, hS10⟩
        have I117 := Lib.hid (fun w2 h1 => I117n.out w2 h1 h117)
        by_cases h85 : pk l (q + 1) = 85
        · have hq2 : q + 2 ≤ l.length := by have := pk_lt h85 (by decide); omega
          have HST : Hid (iriGo l (f + 1) q acc = (match numV l 8 (q + 2) 0 with | (some x, j) => iriGo l f j (acc ++ [x]) | (none, j) => (none, j))) := Lib.hid (by rw [HST2.out, if_neg h117, if_pos h85])
          have I85 := Lib.hid (fun w2 (h1 : ScW l (q + 1) X g cap w2) => is1_yes 85 85 rfl (by decide) h1 HL.out hb h85)
          clear h85 h117 HST2
          go_wp2_with fail
          refine (HEN.out _ hS.out.1.1).mono ?_
          rintro e w2 ⟨rfl, hb2⟩
          have hS2 := Lib.hid (hS.out.below hb2)
          clear hb2
          go_wp2_with fail
          refine (HPK.out _ hS2.out.1.1).mono ?_
          rintro e w3 ⟨rfl, hb3⟩
          have hS3 := Lib.hid (hS2.out.below hb3)
          clear hb3
          go_wp2_with fail
          refine (I62.out _ hS3.out.1.1).mono ?_
          intro e w4 hmv
          obtain ⟨rfl, hs4⟩ := hS3.out.moved hmv
          have hS4 := Lib.hid hs4
          clear hmv hs4
          go_wp2_with fail
          refine (I92.out _ hS4.out.1.1).mono ?_
          intro e w5 hmv
          obtain ⟨rfl, hs5⟩ := hS4.out.moved hmv
          have hS5 := Lib.hid hs5
          clear hmv hs5
          go_wp2_with fail
          refine (I117.out _ hS5.out.1.1).mono ?_
          intro e w6 hmv
          obtain ⟨rfl, hs6⟩ := hS5.out.moved hmv
          have hS6 := Lib.hid hs6
          clear hmv hs6
          go_wp2_with fail
          refine (I85.out _ hS6.out.1.1).mono ?_
          intro e w7 hmv
          obtain ⟨rfl, hs7⟩ := hS6.out.moved hmv
          have hS7 := Lib.hid hs7
          clear hmv hs7
          go_wp2_with fail
          refine (digits_any 8 (by omega) hS7.out.1.1 HL.out hb).mono ?_
          intro e w9 hdg
          obtain ⟨rfl, hs9, hk9⟩ := hdg
          have hS9 := Lib.hid (hS7.out.scan hs9 hk9)
          have HNV := Lib.hid (fun x j (h : numV l 8 (q + 2) 0 = (some x, j)) => numV_some l 8 (q + 2) 0 x j h)
          clear hs9 hk9
          cases hnv : numV l 8 (q + 2) 0 with
          | mk o j =>
            rw [hnv] at hS9 HST
            dsimp only at hS9 HST
            cases o with
            | none =>
              have HRR : Hid (R = (none, j)) := Lib.hid (by rw [← hG.out, HST.out])
              clear hnv HST hG
              simp only [Option.getD_none, Option.isSome_none]
              go_wp2_with fail
              go_ret2
              unfold IriEnd
              rw [HRR.out]
              exact ⟨rfl, hS9.out.1.1, HS1.out.2.trans hS9.out.1.2⟩
            | some x =>
              have hx := HNV.out x j hnv
              have hx1 := hx.1
              have hx2 := hx.2.1 (by omega)
              have HG2 : Hid (iriGo l f j (acc ++ [x]) = R) := Lib.hid (by rw [← hG.out, HST.out])
              have HWR := Lib.hid (fun w2 (h1 : BdAt w1.heap.size (textB acc) w2) (h2 : w1.heap.size ≤ w2.heap.size) => writeRune_any w1.heap.size w1.heap.size (Lib.byteCells (textB acc)) x hx.2.2 w2 h1 (by rw [Lib.byteCells_length]; have := textB_le acc; omega) h2)
              clear hx hnv HST hG
              simp only [Option.getD_some, Option.isSome_some]
              go_wp2_with fail
              refine (HWR.out _ hS9.out.2.1 hS9.out.size).mono ?_
              rintro e w10 ⟨rfl, hw10⟩
              rw [cells_rune, enc_snoc] at hw10
              have hS10 := Lib.hid (hS9.out.build hw10)
              clear hw10
              go_wp2_with fail
              go_roundg (l.length - j)
              case measure => omega
              case rel => exact ⟨j, f, acc ++ [x], by omega, by omega, by rw [List.length_append, List.length_singleton]; omega, HG2, hS10⟩
        · have HRR : Hid (R = (none, q + 1)) := Lib.hid (by rw [← hG.out, HST2.out, if_neg h117, if_neg h85])
          have I85 := Lib.hid (fun w2 h1 => I85n.out w2 h1 h85)
          clear h85 h117 HST2 hG
          go_wp2_with fail
          refine (HEN.out _ hS.out.1.1).mono ?_
          rintro e w2 ⟨rfl, hb2⟩
          have hS2 := Lib.hid (hS.out.below hb2)
          clear hb2
          go_wp2_with fail
          refine (HPK.out _ hS2.out.1.1).mono ?_
          rintro e w3 ⟨rfl, hb3⟩
          have hS3 := Lib.hid (hS2.out.below hb3)
          clear hb3
          go_wp2_with fail
          refine (I62.out _ hS3.out.1.1).mono ?_
          intro e w4 hmv
          obtain ⟨rfl, hs4⟩ := hS3.out.moved hmv
          have hS4 := Lib.hid hs4
          clear hmv hs4
          go_wp2_with fail
          refine (I92.out _ hS4.out.1.1).mono ?_
          intro e w5 hmv
          obtain ⟨rfl, hs5⟩ := hS4.out.moved hmv
          have hS5 := Lib.hid hs5
          clear hmv hs5
          go_wp2_with fail
          refine (I117.out _ hS5.out.1.1).mono ?_
          intro e w6 hmv
          obtain ⟨rfl, hs6⟩ := hS5.out.moved hmv
          have hS6 := Lib.hid hs6
          clear hmv hs6
          go_wp2_with fail
          refine (I85.out _ hS6.out.1.1).mono ?_
          intro e w7 hmv
          obtain ⟨rfl, hs7⟩ := hS6.out.moved hmv
          have hS7 := Lib.hid hs7
          clear hmv hs7
          go_wp2_with fail
          go_ret2
          unfold IriEnd
          rw [HRR.out]
          exact ⟨rfl, hS7.out.1.1, HS1.out.2.trans hS7.out.1.2⟩
      · have I92 := Lib.hid (fun w2 h1 => I92n.out w2 h1 h92)
        have HG2 : Hid (iriGo l f (q + 1) (acc ++ [pk l q]) = R) := Lib.hid (by rw [← hG.out, HST.out, if_neg hor, if_neg h62, if_neg h92])
        have HNX := Lib.hid (fun w2 (h1 : ScW l q X g cap w2) => nnext_any h1 hql HL.out hb)
        have HWR := Lib.hid (fun w2 (h1 : BdAt w1.heap.size (textB acc) w2) (h2 : w1.heap.size ≤ w2.heap.size) => writeRune_any w1.heap.size w1.heap.size (Lib.byteCells (textB acc)) (pk l q) hsg w2 h1 (by rw [Lib.byteCells_length]; have := textB_le acc; omega) h2)
        obtain ⟨c, hc⟩ : ∃ c, c = pk l q := ⟨_, rfl⟩
        rw [← hc] at HPK HG2 HNX HWR q10
        clear hend hsg hne h10 hor h62 h92 HST hG hc
        go_wp2_with fail
        refine (HEN.out _ hS.out.1.1).mono ?_
        rintro e w2 ⟨rfl, hb2⟩
        have hS2 := Lib.hid (hS.out.below hb2)
        clear hb2
        go_wp2_with fail
        refine (HPK.out _ hS2.out.1.1).mono ?_
        rintro e w3 ⟨rfl, hb3⟩
        have hS3 := Lib.hid (hS2.out.below hb3)
        clear hb3
        go_wp2_with fail
        refine (I62.out _ hS3.out.1.1).mono ?_
        intro e w4 hmv
        obtain ⟨rfl, hs4⟩ := hS3.out.moved hmv
        have hS4 := Lib.hid hs4
        clear hmv hs4
        go_wp2_with fail
        refine (I92.out _ hS4.out.1.1).mono ?_
        intro e w5 hmv
        obtain ⟨rfl, hs5⟩ := hS4.out.moved hmv
        have hS5 := Lib.hid hs5
        clear hmv hs5
        go_wp2_with fail
        refine (HNX.out _ hS5.out.1.1).mono ?_
        intro e w6 hmv
        obtain ⟨rfl, hs6⟩ := hS5.out.moved hmv
        have hS6 := Lib.hid hs6
        clear hmv hs6
        go_wp2_with fail
        refine (HWR.out _ hS6.out.2.1 hS6.out.size).mono ?_
        rintro e w10 ⟨rfl, hw10⟩
        rw [cells_rune, enc_snoc] at hw10
        have hS10 := Lib.hid (hS6.out.build hw10)
        clear hw10
        go_wp2_with fail
        go_roundg (gk - 1)
        case measure => omega
        case rel => exact ⟨q + 1, f, acc ++ [c], by omega, by omega, by rw [List.length_append, List.length_singleton]; omega, HG2, hS10⟩
  · rw [if_neg h60] at hR
    have HRR := Lib.hid hR
    rw [show ((60 : UInt8).toNat : Int) = 60 from rfl, if_neg h60, decide_eq_false h60] at HI
    clear h60 hR
    go_enter Tryd.func64, Tryd.ntmps64
    go_wp2_with fail
    refine HI.out.mono ?_
    intro e w1 hmv
    obtain ⟨rfl, hs1⟩ := (Sn.refl HS.out).moved hmv
    have HS1 := Lib.hid hs1
    clear hmv hs1
    go_wp2_with fail
    go_ret2
    unfold IriEnd
    rw [HRR.out]
    exact ⟨rfl, HS1.out.1, HS1.out.2⟩
end Go.Proofs.YtbchkhjkajagfaaDoor
namespace Go.Proofs.YtbchkhjkajagfaaDoor
open Go Go.RowKit
set_option linter.unusedVariables false
set_option linter.unusedSimpArgs false
set_option maxRecDepth 100000
/-- letters, digits, some marks -/
def letC (cs : List Int) (c : Int) : Bool := [1, 2].contains (classV c) || cs.contains c
theorem word_let (under : Bool) : wordC under = letC (if under then [95, 45] else [45]) := by
  funext c
  rw [Bool.eq_iff_iff]
  unfold wordC letC
  cases under
  · simp only [Bool.or_eq_true, Bool.and_eq_true, decide_eq_true_eq, List.contains_iff_mem, List.mem_cons, List.not_mem_nil, or_false, Bool.false_eq_true, if_false, false_and]
    omega
  · simp only [Bool.or_eq_true, Bool.and_eq_true, decide_eq_true_eq, List.contains_iff_mem, List.mem_cons, List.not_mem_nil, or_false, if_true, true_and]
    omega
theorem take_on (l : List Int) (p q m : Nat) (h : p ≤ q) : (l.drop p).take (q - p) ++ (l.drop q).take m = (l.drop p).take (q + m - p) := by
  rw [show q + m - p = (q - p) + m by omega, List.take_add, List.drop_drop, show p + (q - p) = q by omega]
/-- the marks, as they lie -/
def MkAt (cs : List Int) (a : Option Addr) (X : Nat) (w : World) : Prop := ∃ b off, a = some ⟨b, off, none⟩ ∧ b ≠ X ∧ b < w.heap.size ∧ ∀ j (h : j < cs.length), w.cell? ⟨b, off + j, none⟩ = some (.int .i32 (cs[j]'h))
theorem MkAt.sb {cs : List Int} {a : Option Addr} {l : List Int} {q X g cap : Nat} {w0 w : World} {bs : List UInt8} (h : MkAt cs a X w0) (hs : SB l q X g cap w0 bs w) : MkAt cs a X w := by
  obtain ⟨b, off, h1, h2, h3, h4⟩ := h
  exact ⟨b, off, h1, h2, Nat.lt_of_lt_of_le h3 hs.size, fun j hj => (cell_same (hs.1.2.2 b h3 h2)).trans (h4 j hj)⟩
set_option maxHeartbeats 6400000 in
theorem letters_any {l : List Int} {p X g cap c : Nat} {w : World} (cs : List Int) (a : Option Addr) (hcs : cs.length ≤ 100) (hm : MkAt cs a X w) (h : ScW l p X g cap w) (hl : ∀ n ∈ l, SignP n) (hb : l.length ≤ 1000000) (hno : (-1 : Int) ∉ cs) :
    Calls Tryd.prog 67 #[.pointer (some ⟨X, 0, none⟩), .slice a cs.length c] w (Moved l (p + twN (letC cs) l p) X g cap (.string (tBytes ((l.drop p).take (twN (letC cs) l p)))) w) := by
  have hp := h.2.2.2.2.1
  have HL := Lib.hid hl
  have HM := Lib.hid hm
  have HS := Lib.hid (SB.start h)
  have h0 : letC cs (-1) = false := by unfold letC; simp; exact ⟨by decide, hno⟩
  have HIN := Lib.hid (fun q (h1 : p ≤ q) (h2 : q < p + twN (letC cs) l p) => twk_in h1 h2)
  have HOUT := Lib.hid (twk_out h0 l p)
  have hle := twk_le (C := letC cs) hp
  obtain ⟨N, hN⟩ : ∃ N, N = twN (letC cs) l p := ⟨_, rfl⟩
  rw [← hN] at HIN HOUT hle ⊢
  clear h hl hm hN h0
  go_enter Tryd.func67, Tryd.ntmps67
  go_wp2_with fail
  go_loopg [] N (fun gn wr => ∃ q : Nat, q + gn = p + N ∧ p ≤ q ∧ Hid (SB l q X g cap w (textB ((l.drop p).take (q - p))) wr))
  case atStart => exact ⟨p, by omega, by omega, by rw [Nat.sub_self]; exact HS⟩
  case round =>
    obtain ⟨q, hq, hpq, hS⟩ := hrel
    obtain ⟨wo, hwo⟩ : ∃ wo : World, wo = wr := ⟨_, rfl⟩
    subst hwo
    have HCL : Hid (ClsAt [1, 2] (some ⟨wo.heap.size, 0, none⟩) 2 X (wo.alloc (.cells #[.int .i64 1, .int .i64 2] 3))) := Lib.hid (by
      have hX := hS.out.2.2.1
      have hsz := hS.out.size
      have hbx : (wo.alloc (.cells #[.int .i64 1, .int .i64 2] 3)).heap[wo.heap.size]? = some (.cells #[.int .i64 1, .int .i64 2] 3 (0, 0)) := heap_alloc_new _ _
      refine ⟨rfl, .inr ⟨wo.heap.size, 0, rfl, by omega, by simp, fun j hj => ?_⟩⟩
      rcases (by simp at hj; omega : j = 0 ∨ j = 1) with rfl | rfl
      · rw [Lib.cell_of_heap hbx]; rfl
      · rw [Lib.cell_of_heap hbx]; rfl)
    have hS1 := Lib.hid (hS.out.below ((Below.refl _ wo).alloc (Nat.le_refl _) (.cells #[.int .i64 1, .int .i64 2] 3)))
    have hql : q ≤ l.length := by omega
    have HRL := Lib.hid (runN_le [1, 2] l q hql)
    have HRI := Lib.hid (fun r (h1 : q ≤ r) (h2 : r < q + runN [1, 2] l q) (h3 : r < l.length) => runN_in h1 h2 h3)
    have HRE := Lib.hid (fun (h3 : q + runN [1, 2] l q < l.length) => runN_end h3)
    obtain ⟨M, hM⟩ : ∃ M, M = runN [1, 2] l q := ⟨_, rfl⟩
    have HRA := Lib.hid (run_any [1, 2] l q X g cap (some ⟨wo.heap.size, 0, none⟩) 2 2 _ hS1.out.1.1 HL.out hb HCL.out (by omega))
    have hRT : runT [1, 2] l q = ⟨(textB ((l.drop q).take M)).toArray⟩ := by unfold runT; rw [← hM]
    rw [← hM] at HRL HRI HRE HRA
    rw [hRT] at HRA
    have HRL1 := HRL.out
    -- what was run through is of the word
    have hqN : q + M ≤ p + N := by
      by_cases hlt : q + M ≤ p + N
      · exact hlt
      · exfalso
        have h1 := HRI.out (p + N) (by omega) (by omega) (by omega)
        have h2 := HOUT.out
        unfold letC at h2
        rw [pk_yes (by omega), Bool.or_eq_false_iff] at h2
        rw [h2.1] at h1
        cases h1
    have hstop : ([1, 2] : List Int).contains (classV (pk l (q + M))) = false := by
      by_cases hlt : q + M < l.length
      · rw [pk_yes hlt]; exact HRE.out hlt
      · rw [pk_no (by omega)]; decide
    have HSTOP := Lib.hid hstop
    have HWS := Lib.hid (fun w2 (h1 : BdAt w.heap.size (textB ((l.drop p).take (q - p))) w2) (h2 : w.heap.size ≤ w2.heap.size) => writeString_any w.heap.size w.heap.size (Lib.byteCells (textB ((l.drop p).take (q - p)))) ⟨(textB ((l.drop q).take M)).toArray⟩ w2 h1 (by
      rw [Lib.byteCells_length]
      have e1 := textB_le ((l.drop p).take (q - p))
      have e2 := textB_le ((l.drop q).take M)
      rw [List.length_take] at e1 e2
      have e3 : (⟨(textB ((l.drop q).take M)).toArray⟩ : ByteArray).size = (textB ((l.drop q).take M)).length := by simp [ByteArray.size]
      omega) h2)
    clear hM hRT hstop HCL HRI HRE HRL
    go_wp2_with fail
    refine HRA.out.mono ?_
    intro e w2 hmv
    obtain ⟨rfl, hs2⟩ := hS1.out.moved hmv
    have hS2 := Lib.hid hs2
    clear hmv hs2
    go_wp2_with fail
    refine (HWS.out _ hS2.out.2.1 hS2.out.size).mono ?_
    rintro e w3 ⟨rfl, hw3⟩
    rw [show Lib.strCells ⟨(textB ((l.drop q).take M)).toArray⟩ = Lib.byteCells (textB ((l.drop q).take M)) from rfl, ← Lib.byteCells_append, ← textB_append, take_on l p q M hpq] at hw3
    have hS3 := Lib.hid (hS2.out.build hw3)
    clear hw3 HWS HRA
    obtain ⟨q1, hq1⟩ : ∃ q1, q1 = q + M := ⟨_, rfl⟩
    rw [← hq1] at hS3 hqN HSTOP
    have hqq : q ≤ q1 := by omega
    have hpq1 : p ≤ q1 := by omega
    clear hq1
    go_wp2_with fail
    go_loopw [6, 15] (fun vm i wr => ∃ (j q2 : Nat), j ≤ cs.length ∧ i = .int .i64 j ∧ q1 ≤ q2 ∧ q2 ≤ p + N ∧ vm = .bool (decide (q1 < q2)) ∧ Hid (q2 = q1 → ∀ k (h : k < j) (h2 : k < cs.length), pk l q1 ≠ cs[k]'h2) ∧ Hid (SB l q2 X g cap w (textB ((l.drop p).take (q2 - p))) wr)) (fun _ i _ => cs.length - (intOf i).toNat)
    case atStart => exact ⟨0, q1, by omega, rfl, by omega, by omega, by simp, Lib.hid (fun _ k h => by omega), hS3⟩
    case round =>
      obtain ⟨j, q2, hj, rfl, h12, h2N, rfl, hA, hT⟩ := hrel
      by_cases hlt : j < cs.length
      · obtain ⟨mb, mo, rfl, hm1, hm2, hm3⟩ := HM.out.sb hT.out
        have cm := hm3 j hlt
        have b1 : (0 : Int) ≤ (j : Int) := by omega
        have b2 : (j : Int) < (cs.length : Int) := by omega
        obtain ⟨r, hr⟩ : ∃ r, r = cs[j]'hlt := ⟨_, rfl⟩
        rw [← hr] at cm
        clear hm3
        have HPK := Lib.hid (fun w2 (h1 : ScW l q2 X g cap w2) => npeek_any h1 hb)
        by_cases hhit : pk l q2 = r
        · have hne : pk l q2 ≠ -1 := by rw [hhit, hr]; intro e; exact hno (by rw [← e]; exact List.getElem_mem hlt)
          have hql2 : q2 < l.length := by
            by_cases h1 : q2 < l.length
            · exact h1
            · exact absurd (pk_no (by omega)) hne
          have hq2N : q2 < p + N := by
            by_cases h1 : q2 < p + N
            · exact h1
            · exfalso
              have h2 := HOUT.out
              rw [show p + N = q2 by omega] at h2
              unfold letC at h2
              rw [Bool.or_eq_false_iff, hhit, hr] at h2
              have h3 : cs.contains (cs[j]'hlt) = true := by rw [List.contains_iff_mem]; exact List.getElem_mem hlt
              rw [h3] at h2
              cases h2.2
          have hsg : SignP (pk l q2) := by rw [pk_yes hql2]; exact HL.out _ (List.getElem_mem hql2)
          have HNX := Lib.hid (fun w2 (h1 : ScW l q2 X g cap w2) => nnext_any h1 hql2 HL.out hb)
          have HTK : Hid ((l.drop p).take (q2 - p) ++ [pk l q2] = (l.drop p).take (q2 + 1 - p)) := Lib.hid (by
            rw [← take_on l p q2 1 (by omega)]
            congr 1
            rw [pk_yes hql2, List.drop_eq_getElem_cons hql2, List.take_succ_cons, List.take_zero])
          have HWR := Lib.hid (fun w2 (h1 : BdAt w.heap.size (textB ((l.drop p).take (q2 - p))) w2) (h2 : w.heap.size ≤ w2.heap.size) => writeRune_any w.heap.size w.heap.size (Lib.byteCells (textB ((l.drop p).take (q2 - p)))) (pk l q2) hsg w2 h1 (by
            rw [Lib.byteCells_length]
            have e1 := textB_le ((l.drop p).take (q2 - p))
            rw [List.length_take] at e1
            omega) h2)
          rw [hhit] at HPK HNX HTK HWR
          have t9 : (r == r) = true := by simp
          clear hhit hne hsg hr hA
          go_wp2_with fail
          refine (HPK.out _ hT.out.1.1).mono ?_
          rintro e w4 ⟨rfl, hb4⟩
          have hS4 := Lib.hid (hT.out.below hb4)
          clear hb4 cm
          go_wp2_with fail
          refine (HNX.out _ hS4.out.1.1).mono ?_
          intro e w5 hmv
          obtain ⟨rfl, hs5⟩ := hS4.out.moved hmv
          have hS5 := Lib.hid hs5
          clear hmv hs5
          go_wp2_with fail
          refine (HWR.out _ hS5.out.2.1 hS5.out.size).mono ?_
          rintro e w6 ⟨rfl, hw6⟩
          rw [cells_rune, enc_snoc, HTK.out] at hw6
          have hS6 := Lib.hid (hS5.out.build hw6)
          clear hw6
          go_wp2_with fail
          refine ⟨⟨j + 1, q2 + 1, by omega, by push_cast; rfl, by omega, by omega, by rw [decide_eq_true (by omega)], Lib.hid (fun e => by omega), hS6⟩, by simp only [intOf]; omega⟩
        · have t9 : (pk l q2 == r) = false := by simpa using hhit
          have HA2 : Hid (q2 = q1 → ∀ k (h : k < j + 1) (h2 : k < cs.length), pk l q1 ≠ cs[k]'h2) := Lib.hid (fun e k h h2 => by
            by_cases hk : k < j
            · exact hA.out e k hk h2
            · obtain rfl : k = j := by omega
              rw [← e, ← hr]
              exact hhit)
          obtain ⟨n, hn⟩ : ∃ n, n = pk l q2 := ⟨_, rfl⟩
          rw [← hn] at HPK t9
          clear hhit hr hA hn
          go_wp2_with fail
          refine (HPK.out _ hT.out.1.1).mono ?_
          rintro e w4 ⟨rfl, hb4⟩
          have hS4 := Lib.hid (hT.out.below hb4)
          clear hb4 cm
          go_wp2_with fail
          exact ⟨⟨j + 1, q2, by omega, by push_cast; rfl, h12, h2N, rfl, HA2, hS4⟩, by simp only [intOf]; omega⟩
      · have t3 : decide (j < cs.length) = false := decide_eq_false hlt
        obtain rfl : j = cs.length := by omega
        by_cases hmore : q1 < q2
        · have t8 : decide (q1 < q2) = true := decide_eq_true hmore
          go_wp2_with fail
          go_roundg (p + N - q2)
          case measure => omega
          case rel => exact ⟨q2, by omega, by omega, hT⟩
        · have t8 : decide (q1 < q2) = false := decide_eq_false hmore
          obtain rfl : q2 = q1 := by omega
          have hend : q2 = p + N := by
            by_cases h1 : q2 < p + N
            · exfalso
              have h2 := HIN.out q2 hpq1 h1
              unfold letC at h2
              rw [HSTOP.out, Bool.false_or, List.contains_iff_mem] at h2
              obtain ⟨k, hk, e⟩ := List.mem_iff_getElem.1 h2
              exact hA.out rfl k hk hk e.symm
            · omega
          have HE := Lib.hid hend
          clear hend hmore hA
          go_wp2_with fail
          refine (Tryd.Builder_String_any_k w.heap.size w.heap.size _ _ hT.out.2.1 hT.out.size).mono ?_
          rintro e w5 ⟨rfl, _, hb5, _⟩
          have hF := Lib.hid (hT.out.fin hb5)
          clear hb5
          go_wp2_with fail
          go_ret
          have hE := HE.out
          subst hE
          rw [Nat.add_sub_cancel_left]
          exact ⟨rfl, hF.out.1, hF.out.2⟩
end Go.Proofs.YtbchkhjkajagfaaDoor
namespace Go.Proofs.YtbchkhjkajagfaaDoor
open Go Go.RowKit
set_option linter.unusedVariables false
set_option linter.unusedSimpArgs false
set_option maxRecDepth 100000
/-- type and language of a literal: whether they can be there, the place -/
def tailT (l : List Int) (i : Nat) : Option (ByteArray × ByteArray) × Nat :=
  if pk l i = 94 ∧ pk l (i + 1) = 94 then ((iriT l (i + 2)).1.map (fun y => (tBytes y, ⟨#[]⟩)), (iriT l (i + 2)).2)
  else if pk l i = 64 then (some (ntLang, tBytes (wordT l (i + 1) false).1), (wordT l (i + 1) false).2)
  else (some (ntString, ⟨#[]⟩), i)
/-- what the law of tail tells: where none can be there, the texts are not told -/
def TailEnd (l : List Int) (X g cap : Nat) (w : World) (R : Option (ByteArray × ByteArray) × Nat) (e : Ending) (w' : World) : Prop :=
  ∃ t g', e = .returned (.tuple #[.string t, .string g', .bool R.1.isSome]) ∧ (∀ x, R.1 = some x → x = (t, g')) ∧ ScW l R.2 X g cap w' ∧ SK X w w'
theorem read_hats : Read (⟨#[94, 94]⟩ : ByteArray).data.toList [94, 94] [] := ⟨by decide, (fun n hn => by simp only [List.mem_cons, List.not_mem_nil, or_false, or_self] at hn; subst hn; exact .inl ⟨by omega, by omega⟩), noSign_nil⟩
theorem hats_any {l : List Int} {p X g cap : Nat} {w : World} (h : ScW l p X g cap w) (hl : ∀ n ∈ l, SignP n) (hb : l.length ≤ 1000000) :
    Calls Tryd.prog 66 #[.pointer (some ⟨X, 0, none⟩), .string ⟨#[94, 94]⟩] w (Moved l (if pk l p = 94 ∧ pk l (p + 1) = 94 then p + 2 else p) X g cap (.bool (decide (pk l p = 94 ∧ pk l (p + 1) = 94))) w) := by
  have := is_any ⟨#[94, 94]⟩ [94, 94] l p X g cap w read_hats (by decide) h hl hb
  have e := take2_pk (l := l) (p := p) (a := 94) (b := 94) (by decide) (by decide)
  rw [show ([94, 94] : List Int).length = 2 from rfl] at this
  have e2 : decide ((l.drop p).take 2 = [94, 94]) = decide (pk l p = 94 ∧ pk l (p + 1) = 94) := by simp only [e]
  have e3 : (if (l.drop p).take 2 = [94, 94] then p + 2 else p) = (if pk l p = 94 ∧ pk l (p + 1) = 94 then p + 2 else p) := by simp only [e]
  rw [e2, e3] at this
  exact this
/-- a row of marks, made at once -/
theorem mk_one {w : World} {X : Nat} (hX : X < w.heap.size) : MkAt [45] (some ⟨w.heap.size, 0, none⟩) X (w.alloc (.cells #[.int .i32 45] 21)) := by
  have hbx : (w.alloc (.cells #[.int .i32 45] 21)).heap[w.heap.size]? = some (.cells #[.int .i32 45] 21 (0, 0)) := heap_alloc_new _ _
  refine ⟨w.heap.size, 0, rfl, by omega, by simp, fun j hj => ?_⟩
  obtain rfl : j = 0 := by simp at hj; omega
  rw [Lib.cell_of_heap hbx]; rfl
theorem mk_two {w : World} {X : Nat} (hX : X < w.heap.size) : MkAt [95, 45] (some ⟨w.heap.size, 0, none⟩) X (w.alloc (.cells #[.int .i32 95, .int .i32 45] 21)) := by
  have hbx : (w.alloc (.cells #[.int .i32 95, .int .i32 45] 21)).heap[w.heap.size]? = some (.cells #[.int .i32 95, .int .i32 45] 21 (0, 0)) := heap_alloc_new _ _
  refine ⟨w.heap.size, 0, rfl, by omega, by simp, fun j hj => ?_⟩
  rcases (by simp at hj; omega : j = 0 ∨ j = 1) with rfl | rfl
  · rw [Lib.cell_of_heap hbx]; rfl
  · rw [Lib.cell_of_heap hbx]; rfl
set_option maxHeartbeats 1600000 in
theorem tail_any {l : List Int} {p X g cap : Nat} {w : World} (h : ScW l p X g cap w) (hl : ∀ n ∈ l, SignP n) (hb : l.length ≤ 1000000) :
    Calls Tryd.prog 69 #[.pointer (some ⟨X, 0, none⟩)] w (TailEnd l X g cap w (tailT l p)) := by
  have HS := Lib.hid (Sn.refl h)
  have HL := Lib.hid hl
  have HH := Lib.hid (hats_any h hl hb)
  obtain ⟨R, hR⟩ : ∃ R, R = tailT l p := ⟨_, rfl⟩
  rw [← hR]
  unfold tailT at hR
  clear h hl
  by_cases hh : pk l p = 94 ∧ pk l (p + 1) = 94
  · rw [if_pos hh] at hR
    rw [if_pos hh, decide_eq_true hh] at HH
    have HR := Lib.hid hR
    clear hh hR
    go_enter Tryd.func69, Tryd.ntmps69
    go_wp2_with fail
    refine HH.out.mono ?_
    intro e w1 hmv
    obtain ⟨rfl, hs1⟩ := HS.out.moved hmv
    have HS1 := Lib.hid hs1
    clear hmv hs1
    go_wp2_with fail
    refine (niri_any HS1.out.1 HL.out hb).mono ?_
    rintro e w2 ⟨rfl, hs2, hk2⟩
    have HS2 := Lib.hid (⟨hs2, HS1.out.2.trans hk2⟩ : _ ∧ _)
    clear hs2 hk2
    obtain ⟨o, j, hij⟩ : ∃ o j, iriT l (p + 2) = (o, j) := ⟨_, _, rfl⟩
    rw [hij] at HS2 HR ⊢
    dsimp only at HS2 HR ⊢
    have HRR := Lib.hid HR.out
    clear hij HR
    go_wp2_with fail
    refine bodyPost_ret (v := .tuple #[.string (tBytes (o.getD [])), .string ⟨#[]⟩, .bool o.isSome]) (by simp [results, Tryd.results69, go_sem]) rfl ?_
    refine ⟨tBytes (o.getD []), ⟨#[]⟩, by rw [HRR.out]; cases o <;> rfl, ?_, by rw [HRR.out]; exact HS2.out.1, HS2.out.2⟩
    intro x hx
    rw [HRR.out] at hx
    cases o with
    | none => cases hx
    | some y => injection hx with hx; exact hx.symm
  · rw [if_neg hh] at hR
    rw [if_neg hh, decide_eq_false hh] at HH
    by_cases h64 : pk l p = 64
    · have HI := Lib.hid (fun w2 (h1 : ScW l p X g cap w2) => is1_yes 64 64 rfl (by decide) h1 HL.out hb h64)
      rw [if_pos h64] at hR
      have hwt : wordT l (p + 1) false = ((l.drop (p + 1)).take (twN (letC [45]) l (p + 1)), p + 1 + twN (letC [45]) l (p + 1)) := by
        unfold wordT
        rw [word_let false]
        unfold twN
        rw [if_neg (by decide)]
        congr 1
        exact List.prefix_iff_eq_take.1 (List.takeWhile_prefix _)
      rw [hwt] at hR
      have HRR := Lib.hid hR
      clear hh h64 hR hwt
      go_enter Tryd.func69, Tryd.ntmps69
      go_wp2_with fail
      refine HH.out.mono ?_
      intro e w1 hmv
      obtain ⟨rfl, hs1⟩ := HS.out.moved hmv
      have HS1 := Lib.hid hs1
      clear hmv hs1
      go_wp2_with fail
      refine (HI.out _ HS1.out.1).mono ?_
      intro e w2 hmv
      obtain ⟨rfl, hs2⟩ := HS1.out.moved hmv
      have HS2 := Lib.hid hs2
      clear hmv hs2
      have HS3 := Lib.hid (HS2.out.below ((Below.refl _ w2).alloc (Nat.le_refl _) (.cells #[.int .i32 45] 21)))
      go_wp2_with fail
      refine (letters_any [45] _ (by decide) (mk_one HS2.out.1.lt) HS3.out.1 HL.out hb (by decide)).mono ?_
      intro e w4 hmv
      obtain ⟨rfl, hs4⟩ := HS3.out.moved hmv
      have HS4 := Lib.hid hs4
      clear hmv hs4
      go_wp2_with fail
      refine bodyPost_ret (v := .tuple #[.string ntLang, .string (tBytes ((l.drop (p + 1)).take (twN (letC [45]) l (p + 1)))), .bool true]) (by simp [results, Tryd.results69, go_sem, ntLang]) rfl ?_
      exact ⟨_, _, by rw [HRR.out]; rfl, fun x hx => by rw [HRR.out] at hx; injection hx with hx; exact hx.symm, by rw [HRR.out]; exact HS4.out.1, HS4.out.2⟩
    · have HI := Lib.hid (fun w2 (h1 : ScW l p X g cap w2) => is1_no 64 64 rfl (by decide) h1 HL.out hb h64)
      rw [if_neg h64] at hR
      have HRR := Lib.hid hR
      clear hh h64 hR
      go_enter Tryd.func69, Tryd.ntmps69
      go_wp2_with fail
      refine HH.out.mono ?_
      intro e w1 hmv
      obtain ⟨rfl, hs1⟩ := HS.out.moved hmv
      have HS1 := Lib.hid hs1
      clear hmv hs1
      go_wp2_with fail
      refine (HI.out _ HS1.out.1).mono ?_
      intro e w2 hmv
      obtain ⟨rfl, hs2⟩ := HS1.out.moved hmv
      have HS2 := Lib.hid hs2
      clear hmv hs2
      go_wp2_with fail
      refine bodyPost_ret (v := .tuple #[.string ntString, .string ⟨#[]⟩, .bool true]) (by simp [results, Tryd.results69, go_sem, ntString]) rfl ?_
      exact ⟨_, _, by rw [HRR.out]; rfl, fun x hx => by rw [HRR.out] at hx; injection hx with hx; exact hx.symm, by rw [HRR.out]; exact HS2.out.1, HS2.out.2⟩
end Go.Proofs.YtbchkhjkajagfaaDoor
namespace Go.Proofs.YtbchkhjkajagfaaDoor
open Go Go.RowKit
set_option linter.unusedVariables false
set_option linter.unusedSimpArgs false
set_option maxRecDepth 100000
theorem nnumV_le (l : List Int) : ∀ (k i : Nat) (s : Int), i ≤ l.length → (numV l k i s).2 ≤ l.length
  | 0, i, s, h => by
    unfold numV
    split
    · exact h
    · show i - 1 ≤ _; omega
  | k + 1, i, s, h => by
    unfold numV
    split
    · split
      · exact h
      · exact nnumV_le l k (i + 1) _ (by omega)
    · exact h
theorem nescV_le (l : List Int) (i : Nat) (h : i ≤ l.length) : (escV l i).2 ≤ l.length := by
  unfold escV
  split
  · split
    · show i + 1 ≤ _; omega
    · split
      · exact nnumV_le l 4 (i + 1) 0 (by omega)
      · split
        · exact nnumV_le l 8 (i + 1) 0 (by omega)
        · exact h
  · exact h
theorem nqgo_le (l : List Int) : ∀ (f i : Nat) (acc : List Int), i ≤ l.length → (qgo l f i acc).2 ≤ l.length
  | 0, i, acc, h => h
  | f + 1, i, acc, h => by
    unfold qgo
    split
    · split
      · show i + 1 ≤ _; omega
      · split
        · have he := nescV_le l (i + 1) (by omega)
          split
          · rename_i x j hx
            rw [hx] at he
            exact nqgo_le l f j _ he
          · rename_i j hx
            rw [hx] at he
            exact he
        · split
          · exact h
          · exact nqgo_le l f (i + 1) _ (by omega)
    · exact h
theorem nquotedV_le (l : List Int) (p : Nat) (h : p ≤ l.length) : (quotedV l p).2 ≤ l.length := by
  unfold quotedV
  split
  · rename_i hq
    have : p < l.length := by
      have := congrArg List.length hq
      rw [List.length_take, List.length_drop] at this
      simp at this
      omega
    exact nqgo_le l _ _ _ (by omega)
  · exact h
/-- the quoted case of a form, by what the tail is -/
theorem form_quoted {l : List Int} {i : Nat} (h1 : pk l i = 34) : formT l i = (match quotedV l i with
    | (none, j) => (none, j)
    | (some t, j) => ((tailT l j).1.map (fun x => .lit (tBytes t) x.1 x.2), (tailT l j).2)) := by
  unfold formT
  rw [if_neg (by omega), if_neg (by omega), if_pos h1]
  rcases quotedV l i with ⟨o, j⟩
  cases o with
  | none => rfl
  | some t =>
    dsimp only
    unfold tailT
    by_cases hh : pk l j = 94 ∧ pk l (j + 1) = 94
    · rw [if_pos hh, if_pos hh, Option.map_map]
      rfl
    · rw [if_neg hh, if_neg hh]
      by_cases h64 : pk l j = 64
      · rw [if_pos h64, if_pos h64]; rfl
      · rw [if_neg h64, if_neg h64]; rfl
/-- what the law of form tells -/
def FormEnd (l : List Int) (X g cap : Nat) (w : World) (R : Option Tm × Nat) (e : Ending) (w' : World) : Prop :=
  ∃ V, e = .returned (.tuple #[V, .bool R.1.isSome]) ∧ (∀ Y, R.1 = some Y → V = tmV Y) ∧ ScW l R.2 X g cap w' ∧ SK X w w'
set_option maxHeartbeats 3200000 in
theorem form_any {l : List Int} {p X g cap : Nat} {w : World} (h : ScW l p X g cap w) (he : Esc w) (hX0 : 0 < X) (hl : ∀ n ∈ l, SignP n) (hb : l.length ≤ 100000) :
    Calls Tryd.prog 35 #[.pointer (some ⟨X, 0, none⟩)] w (FormEnd l X g cap w (formT l p)) := by
  have hp := h.2.2.2.2.1
  have HS := Lib.hid (Sn.refl h)
  have HL := Lib.hid hl
  have hb6 : l.length ≤ 1000000 := by omega
  have HPK := Lib.hid (npeek_any h hb6)
  by_cases h60 : pk l p = 60
  · have HRR : Hid (formT l p = ((iriT l p).1.map (fun t => .iri (tBytes t)), (iriT l p).2)) := Lib.hid (by unfold formT; rw [if_pos h60])
    rw [h60] at HPK
    clear h60 h he hl
    obtain ⟨R, hR⟩ : ∃ R, R = formT l p := ⟨_, rfl⟩
    rw [← hR] at HRR ⊢
    clear hR
    go_enter Tryd.func35, Tryd.ntmps35
    go_wp2_with fail
    refine HPK.out.mono ?_
    rintro e w1 ⟨rfl, hb1⟩
    have HS1 := Lib.hid (HS.out.below hb1)
    clear hb1
    go_wp2_with fail
    refine (niri_any HS1.out.1 HL.out hb6).mono ?_
    rintro e w2 ⟨rfl, hs2, hk2⟩
    have HS2 := Lib.hid (⟨hs2, HS1.out.2.trans hk2⟩ : _ ∧ _)
    clear hs2 hk2
    obtain ⟨o, j, hij⟩ : ∃ o j, iriT l p = (o, j) := ⟨_, _, rfl⟩
    rw [hij] at HS2 HRR ⊢
    dsimp only at HS2 HRR ⊢
    clear hij
    go_wp2_with fail
    refine bodyPost_ret (v := .tuple #[.iface 96 (.agg #[.string (tBytes (o.getD []))]), .bool o.isSome]) (by simp [results, Tryd.results35, go_sem]) rfl ?_
    refine ⟨.iface 96 (.agg #[.string (tBytes (o.getD []))]), by rw [HRR.out]; cases o <;> rfl, ?_, by rw [HRR.out]; exact HS2.out.1, HS2.out.2⟩
    intro Y hY
    rw [HRR.out] at hY
    cases o with
    | none => cases hY
    | some y => injection hY with hY; subst hY; rfl
  by_cases h95 : pk l p = 95
  · have hpl : p < l.length := pk_lt h95 (by decide)
    have HNX := Lib.hid (fun w2 (h1 : ScW l p X g cap w2) => nnext_any h1 hpl HL.out hb6)
    by_cases h58 : pk l (p + 1) = 58
    · have HI := Lib.hid (fun w2 (h1 : ScW l (p + 1) X g cap w2) => is1_yes 58 58 rfl (by decide) h1 HL.out hb6 h58)
      have hwt : wordT l (p + 2) true = ((l.drop (p + 2)).take (twN (letC [95, 45]) l (p + 2)), p + 2 + twN (letC [95, 45]) l (p + 2)) := by
        unfold wordT
        rw [word_let true]
        unfold twN
        rw [if_pos (by decide)]
        congr 1
        exact List.prefix_iff_eq_take.1 (List.takeWhile_prefix _)
      have HRR : Hid (formT l p = (some (.blank (tBytes ((l.drop (p + 2)).take (twN (letC [95, 45]) l (p + 2))))), p + 2 + twN (letC [95, 45]) l (p + 2))) := Lib.hid (by unfold formT; rw [if_neg h60, if_pos h95, if_pos h58, hwt])
      rw [h95] at HPK HNX
      clear h60 h95 h58 h he hl hwt
      obtain ⟨R, hR⟩ : ∃ R, R = formT l p := ⟨_, rfl⟩
      rw [← hR] at HRR ⊢
      clear hR
      go_enter Tryd.func35, Tryd.ntmps35
      go_wp2_with fail
      refine HPK.out.mono ?_
      rintro e w1 ⟨rfl, hb1⟩
      have HS1 := Lib.hid (HS.out.below hb1)
      clear hb1
      go_wp2_with fail
      refine (HNX.out _ HS1.out.1).mono ?_
      intro e w2 hmv
      obtain ⟨rfl, hs2⟩ := HS1.out.moved hmv
      have HS2 := Lib.hid hs2
      clear hmv hs2
      go_wp2_with fail
      refine (HI.out _ HS2.out.1).mono ?_
      intro e w3 hmv
      obtain ⟨rfl, hs3⟩ := HS2.out.moved hmv
      have HS3 := Lib.hid hs3
      clear hmv hs3
      have HS4 := Lib.hid (HS3.out.below ((Below.refl _ w3).alloc (Nat.le_refl _) (.cells #[.int .i32 95, .int .i32 45] 21)))
      go_wp2_with fail
      refine (letters_any [95, 45] _ (by decide) (mk_two HS3.out.1.lt) HS4.out.1 HL.out hb6 (by decide)).mono ?_
      intro e w5 hmv
      obtain ⟨rfl, hs5⟩ := HS4.out.moved hmv
      have HS5 := Lib.hid hs5
      clear hmv hs5
      go_wp2_with fail
      refine bodyPost_ret (v := .tuple #[.iface 94 (.agg #[.string (tBytes ((l.drop (p + 2)).take (twN (letC [95, 45]) l (p + 2))))]), .bool true]) (by simp [results, Tryd.results35, go_sem]) rfl ?_
      refine ⟨_, by rw [HRR.out]; rfl, fun Y hY => ?_, by rw [HRR.out]; exact HS5.out.1, HS5.out.2⟩
      rw [HRR.out] at hY
      injection hY with hY
      subst hY
      rfl
    · have HI := Lib.hid (fun w2 (h1 : ScW l (p + 1) X g cap w2) => is1_no 58 58 rfl (by decide) h1 HL.out hb6 h58)
      have HRR : Hid (formT l p = (none, p + 1)) := Lib.hid (by unfold formT; rw [if_neg h60, if_pos h95, if_neg h58])
      rw [h95] at HPK HNX
      clear h60 h95 h58 h he hl
      obtain ⟨R, hR⟩ : ∃ R, R = formT l p := ⟨_, rfl⟩
      rw [← hR] at HRR ⊢
      clear hR
      go_enter Tryd.func35, Tryd.ntmps35
      go_wp2_with fail
      refine HPK.out.mono ?_
      rintro e w1 ⟨rfl, hb1⟩
      have HS1 := Lib.hid (HS.out.below hb1)
      clear hb1
      go_wp2_with fail
      refine (HNX.out _ HS1.out.1).mono ?_
      intro e w2 hmv
      obtain ⟨rfl, hs2⟩ := HS1.out.moved hmv
      have HS2 := Lib.hid hs2
      clear hmv hs2
      go_wp2_with fail
      refine (HI.out _ HS2.out.1).mono ?_
      intro e w3 hmv
      obtain ⟨rfl, hs3⟩ := HS2.out.moved hmv
      have HS3 := Lib.hid hs3
      clear hmv hs3
      go_wp2_with fail
      go_ret2
      exact ⟨.nilIface, by rw [HRR.out]; rfl, fun Y hY => (by rw [HRR.out] at hY; cases hY), by rw [HRR.out]; exact HS3.out.1, HS3.out.2⟩
  by_cases h34 : pk l p = 34
  · have HRR := Lib.hid (form_quoted (l := l) (i := p) h34)
    have HQ := Lib.hid (fun w2 (h1 : ScW l p X g cap w2) (h2 : Esc w2) => quoted_any l p X g cap w2 h1 h2 hX0 HL.out hb)
    have HE := Lib.hid he
    have HQL := Lib.hid (nquotedV_le l p hp)
    rw [h34] at HPK
    clear h60 h95 h34 h he hl
    obtain ⟨R, hR⟩ : ∃ R, R = formT l p := ⟨_, rfl⟩
    rw [← hR] at HRR ⊢
    clear hR
    obtain ⟨o, j, hoj⟩ : ∃ o j, quotedV l p = (o, j) := ⟨_, _, rfl⟩
    unfold QRes at HQ
    rw [hoj] at HRR HQ HQL
    dsimp only at HRR HQ HQL
    clear hoj
    cases o with
    | none =>
      have HBK := Lib.hid (fun w2 (h1 : ScW l p X g cap w2) => back_yes l p j X g cap w2 h1 HQL.out)
      go_enter Tryd.func35, Tryd.ntmps35
      go_wp2_with fail
      refine HPK.out.mono ?_
      rintro e w1 ⟨rfl, hb1⟩
      have HS1 := Lib.hid (HS.out.below hb1)
      have HE1 := Lib.hid (HE.out.below HE.out.lt hb1)
      clear hb1
      go_wp2_with fail
      refine (HQ.out _ HS1.out.1 HE1.out).mono ?_
      rintro e w2 ⟨rfl, hs2, hk2⟩
      have HS2 : Hid (Sn l p X g cap w w2) := Lib.hid ⟨hs2, HS1.out.2.trans hk2⟩
      clear hs2 hk2
      go_wp2_with fail
      refine (HBK.out _ HS2.out.1).mono ?_
      intro e w3 hmv
      obtain ⟨rfl, hs3⟩ := HS2.out.moved hmv
      have HS3 := Lib.hid hs3
      clear hmv hs3
      go_wp2_with fail
      go_ret2
      exact ⟨.nilIface, by rw [HRR.out]; rfl, fun Y hY => (by rw [HRR.out] at hY; cases hY), by rw [HRR.out]; exact HS3.out.1, HS3.out.2⟩
    | some t =>
      go_enter Tryd.func35, Tryd.ntmps35
      go_wp2_with fail
      refine HPK.out.mono ?_
      rintro e w1 ⟨rfl, hb1⟩
      have HS1 := Lib.hid (HS.out.below hb1)
      have HE1 := Lib.hid (HE.out.below HE.out.lt hb1)
      clear hb1
      go_wp2_with fail
      refine (HQ.out _ HS1.out.1 HE1.out).mono ?_
      rintro e w2 ⟨rfl, hs2, hk2⟩
      have HS2 : Hid (Sn l j X g cap w w2) := Lib.hid ⟨hs2, HS1.out.2.trans hk2⟩
      clear hs2 hk2
      go_wp2_with fail
      refine (tail_any HS2.out.1 HL.out hb6).mono ?_
      rintro e w3 ⟨ty, lg, rfl, hx, hs3, hk3⟩
      have HS3 := Lib.hid (⟨hs3, HS2.out.2.trans hk3⟩ : _ ∧ _)
      have HX := Lib.hid hx
      clear hs3 hk3 hx
      obtain ⟨y, k, hyk⟩ : ∃ y k, tailT l j = (y, k) := ⟨_, _, rfl⟩
      rw [hyk] at HS3 HRR HX ⊢
      dsimp only at HS3 HRR HX ⊢
      clear hyk
      go_wp2_with fail
      refine bodyPost_ret (v := .tuple #[.iface 75 (.agg #[.string (tBytes t), .string ty, .string lg]), .bool y.isSome]) (by simp [results, Tryd.results35, go_sem]) rfl ?_
      refine ⟨.iface 75 (.agg #[.string (tBytes t), .string ty, .string lg]), by rw [HRR.out]; cases y <;> rfl, fun Y hY => ?_, by rw [HRR.out]; exact HS3.out.1, HS3.out.2⟩
      rw [HRR.out] at hY
      cases y with
      | none => cases hY
      | some z =>
        injection hY with hY
        have hz := HX.out z rfl
        subst hz
        subst hY
        rfl
  · have HRR : Hid (formT l p = (none, p)) := Lib.hid (by unfold formT; rw [if_neg h60, if_neg h95, if_neg h34])
    have q1 : (pk l p == 60) = false := by simpa using h60
    have q2 : (pk l p == 95) = false := by simpa using h95
    have q3 : (pk l p == 34) = false := by simpa using h34
    obtain ⟨c, hc⟩ : ∃ c, c = pk l p := ⟨_, rfl⟩
    rw [← hc] at HPK q1 q2 q3
    clear h60 h95 h34 h he hl hc
    obtain ⟨R, hR⟩ : ∃ R, R = formT l p := ⟨_, rfl⟩
    rw [← hR] at HRR ⊢
    clear hR
    go_enter Tryd.func35, Tryd.ntmps35
    go_wp2_with fail
    refine HPK.out.mono ?_
    rintro e w1 ⟨rfl, hb1⟩
    have HS1 := Lib.hid (HS.out.below hb1)
    clear hb1
    go_wp2_with fail
    go_ret2
    exact ⟨.nilIface, by rw [HRR.out]; rfl, fun Y hY => (by rw [HRR.out] at hY; cases hY), by rw [HRR.out]; exact HS1.out.1, HS1.out.2⟩
end Go.Proofs.YtbchkhjkajagfaaDoor
namespace Go.Proofs.YtbchkhjkajagfaaDoor
open Go Go.RowKit
set_option linter.unusedVariables false
set_option linter.unusedSimpArgs false
set_option maxRecDepth 100000
/-- what the law of Read tells -/
def ReadEnd (l : List Int) (p X g cap : Nat) (w : World) (R : Option Tm × Nat × Int) (e : Ending) (w' : World) : Prop :=
  e = .returned (.tuple #[(match R.1 with | some Y => tmV Y | none => .nilIface), .int .i64 R.2.1, .int .i64 R.2.2]) ∧ ScW l (if R.1.isSome then R.2.1 else p) X g cap w' ∧ SK X w w'
set_option maxHeartbeats 3200000 in
theorem read_any {G : Tm → Bool} (hG : GoodFn G) {l : List Int} {p X g cap : Nat} {w : World} (h : ScW l p X g cap w) (he : Esc w) (hX0 : 0 < X) (hl : ∀ n ∈ l, SignP n) (hb : l.length ≤ 100000) (hsm : ∀ Y j, formT l p = (some Y, j) → Small Y) (hm : ∀ w', SK X w w' → MaxV w') :
    Calls Tryd.prog 12 #[.pointer (some ⟨X, 0, none⟩)] w (ReadEnd l p X g cap w (readT G l p)) := by
  have hp := h.2.2.2.2.1
  have HS := Lib.hid (Sn.refl h)
  have HF := Lib.hid (form_any h he hX0 hl hb)
  have HBK := Lib.hid (fun j w2 (h1 : ScW l j X g cap w2) => back_yes l j p X g cap w2 h1 hp)
  obtain ⟨R, hR⟩ : ∃ R, R = readT G l p := ⟨_, rfl⟩
  rw [← hR]
  unfold readT at hR
  obtain ⟨o, j, hoj⟩ : ∃ o j, formT l p = (o, j) := ⟨_, _, rfl⟩
  rw [hoj] at hR HF
  unfold FormEnd at HF
  dsimp only at hR HF
  have HM := Lib.hid hm
  cases o with
  | none =>
    have HRR := Lib.hid hR
    clear hR hoj h he hl hm hsm
    go_enter Tryd.func12, Tryd.ntmps12
    go_wp2_with fail
    refine (place_any l p X g cap _ HS.out.1).mono ?_
    rintro e w1 ⟨rfl, rfl⟩
    go_wp2_with fail
    refine HF.out.mono ?_
    rintro e w2 ⟨V, rfl, -, hs2, hk2⟩
    have HS2 : Hid (Sn l j X g cap w w2) := Lib.hid ⟨hs2, hk2⟩
    clear hs2 hk2
    simp only [Option.isSome_none]
    go_wp2_with fail
    refine (place_any l j X g cap _ HS2.out.1).mono ?_
    rintro e w3 ⟨rfl, rfl⟩
    go_wp2_with fail
    refine (HBK.out j _ HS2.out.1).mono ?_
    intro e w4 hmv
    obtain ⟨rfl, hs4⟩ := HS2.out.moved hmv
    have HS4 := Lib.hid hs4
    clear hmv hs4
    go_wp2_with fail
    refine bodyPost_ret (v := .tuple #[.nilIface, .int .i64 j, .int .i64 1]) (by simp [results, Tryd.results12, go_sem]) rfl ?_
    unfold ReadEnd
    rw [HRR.out]
    exact ⟨rfl, HS4.out.1, HS4.out.2⟩
  | some Y =>
    have HGD := Lib.hid (fun w2 (hk : SK X w w2) => (hG Y (hsm Y j hoj)).1 w2 (HM.out w2 hk))
    cases hg : G Y with
    | true =>
      rw [hg] at HGD
      dsimp only at hR
      rw [if_pos hg] at hR
      have HRR := Lib.hid hR
      clear hR hoj h he hl hm hsm hg
      go_enter Tryd.func12, Tryd.ntmps12
      go_wp2_with fail
      refine (place_any l p X g cap _ HS.out.1).mono ?_
      rintro e w1 ⟨rfl, rfl⟩
      go_wp2_with fail
      refine HF.out.mono ?_
      rintro e w2 ⟨V, rfl, hV, hs2, hk2⟩
      obtain rfl := hV Y rfl
      have HS2 : Hid (Sn l j X g cap w w2) := Lib.hid ⟨hs2, hk2⟩
      clear hs2 hk2 hV
      simp only [Option.isSome_some]
      go_wp2_with fail
      refine (place_any l j X g cap _ HS2.out.1).mono ?_
      rintro e w3 ⟨rfl, rfl⟩
      go_wp2_with fail
      refine (HGD.out _ HS2.out.2).mono ?_
      rintro e w4 ⟨rfl, hb4⟩
      have HS4 := Lib.hid (HS2.out.below hb4)
      clear hb4
      go_wp2_with fail
      refine bodyPost_ret (v := .tuple #[tmV Y, .int .i64 j, .int .i64 0]) (by simp [results, Tryd.results12, go_sem]) rfl ?_
      unfold ReadEnd
      rw [HRR.out]
      exact ⟨rfl, HS4.out.1, HS4.out.2⟩
    | false =>
      rw [hg] at HGD
      dsimp only at hR
      rw [if_neg (by rw [hg]; decide)] at hR
      have HRR := Lib.hid hR
      clear hR hoj h he hl hm hsm hg
      go_enter Tryd.func12, Tryd.ntmps12
      go_wp2_with fail
      refine (place_any l p X g cap _ HS.out.1).mono ?_
      rintro e w1 ⟨rfl, rfl⟩
      go_wp2_with fail
      refine HF.out.mono ?_
      rintro e w2 ⟨V, rfl, hV, hs2, hk2⟩
      obtain rfl := hV Y rfl
      have HS2 : Hid (Sn l j X g cap w w2) := Lib.hid ⟨hs2, hk2⟩
      clear hs2 hk2 hV
      simp only [Option.isSome_some]
      go_wp2_with fail
      refine (place_any l j X g cap _ HS2.out.1).mono ?_
      rintro e w3 ⟨rfl, rfl⟩
      go_wp2_with fail
      refine (HGD.out _ HS2.out.2).mono ?_
      rintro e w4 ⟨rfl, hb4⟩
      have HS4 := Lib.hid (HS2.out.below hb4)
      clear hb4
      go_wp2_with fail
      refine (HBK.out j _ HS4.out.1).mono ?_
      intro e w5 hmv
      obtain ⟨rfl, hs5⟩ := HS4.out.moved hmv
      have HS5 := Lib.hid hs5
      clear hmv hs5
      go_wp2_with fail
      refine bodyPost_ret (v := .tuple #[.nilIface, .int .i64 p, .int .i64 3]) (by simp [results, Tryd.results12, go_sem]) rfl ?_
      unfold ReadEnd
      rw [HRR.out]
      exact ⟨rfl, HS5.out.1, HS5.out.2⟩
end Go.Proofs.YtbchkhjkajagfaaDoor
namespace Go.Proofs.YtbchkhjkajagfaaDoor
open Go Go.RowKit
set_option linter.unusedVariables false
set_option linter.unusedSimpArgs false
set_option maxRecDepth 100000
theorem read_crlf : Read (⟨#[13, 10]⟩ : ByteArray).data.toList [13, 10] [] := ⟨by decide, (fun n hn => by simp only [List.mem_cons, List.not_mem_nil, or_false] at hn; rcases hn with rfl | rfl <;> exact .inl ⟨by omega, by omega⟩), noSign_nil⟩
theorem crlf_any {l : List Int} {p X g cap : Nat} {w : World} (h : ScW l p X g cap w) (hl : ∀ n ∈ l, SignP n) (hb : l.length ≤ 1000000) :
    Calls Tryd.prog 66 #[.pointer (some ⟨X, 0, none⟩), .string ⟨#[13, 10]⟩] w (Moved l (if pk l p = 13 ∧ pk l (p + 1) = 10 then p + 2 else p) X g cap (.bool (decide (pk l p = 13 ∧ pk l (p + 1) = 10))) w) := by
  have := is_any ⟨#[13, 10]⟩ [13, 10] l p X g cap w read_crlf (by decide) h hl hb
  have e := take2_pk (l := l) (p := p) (a := 13) (b := 10) (by decide) (by decide)
  rw [show ([13, 10] : List Int).length = 2 from rfl] at this
  have e2 : decide ((l.drop p).take 2 = [13, 10]) = decide (pk l p = 13 ∧ pk l (p + 1) = 10) := by simp only [e]
  have e3 : (if (l.drop p).take 2 = [13, 10] then p + 2 else p) = (if pk l p = 13 ∧ pk l (p + 1) = 10 then p + 2 else p) := by simp only [e]
  rw [e2, e3] at this
  exact this
/-- a line's end at a place, nothing passed over -/
def lineT (l : List Int) (r : Nat) : Nat × Bool :=
  if pk l r = 13 ∧ pk l (r + 1) = 10 then (r + 2, true) else if pk l r = 10 then (r + 1, true) else (r, decide (l.length ≤ r))
theorem over_line (l : List Int) (i : Nat) : overT l i = lineT l (noteT l i) := rfl
set_option maxHeartbeats 3200000 in
theorem over_any {l : List Int} {p X g cap : Nat} {w : World} (h : ScW l p X g cap w) (hl : ∀ n ∈ l, SignP n) (hb : l.length ≤ 1000000) :
    Calls Tryd.prog 44 #[.pointer (some ⟨X, 0, none⟩)] w (Moved l (overT l p).1 X g cap (.bool (overT l p).2) w) := by
  have hp := h.2.2.2.2.1
  have HS := Lib.hid (Sn.refl h)
  have HL := Lib.hid hl
  have HGP := Lib.hid (gap_any h hl hb)
  have hq0 : gapT l p ≤ l.length := twk_le (C := blankC) hp
  rw [over_line]
  by_cases h35 : pk l (gapT l p) = 35
  · have hr : noteT l p = gapT l p + twN noteC l (gapT l p) := by unfold noteT; rw [if_pos h35]
    have HPK := Lib.hid (fun w2 (h1 : ScW l (gapT l p) X g cap w2) => npeek_any h1 hb)
    rw [h35] at HPK
    rw [hr]
    obtain ⟨q0, hq⟩ : ∃ q0, q0 = gapT l p := ⟨_, rfl⟩
    rw [← hq] at HPK HGP hq0 ⊢
    have HIN := Lib.hid (fun q (h1 : q0 ≤ q) (h2 : q < q0 + twN noteC l q0) => twk_in h1 h2)
    have HOUT := Lib.hid (twk_out (C := noteC) (by decide) l q0)
    have hN := twk_le (C := noteC) hq0
    obtain ⟨N, hNN⟩ : ∃ N, N = twN noteC l q0 := ⟨_, rfl⟩
    rw [← hNN] at HIN HOUT hN ⊢
    clear h35 hr hq hNN h hl
    obtain ⟨r, hr⟩ : ∃ r, r = q0 + N := ⟨_, rfl⟩
    rw [← hr]
    go_enter Tryd.func44, Tryd.ntmps44
    go_wp2_with fail
    refine HGP.out.mono ?_
    intro e w1 hmv
    obtain ⟨rfl, hs1⟩ := HS.out.moved hmv
    have HS1 := Lib.hid hs1
    clear hmv hs1
    go_wp2_with fail
    refine (HPK.out _ HS1.out.1).mono ?_
    rintro e w2 ⟨rfl, hb2⟩
    have HS2 := Lib.hid (HS1.out.below hb2)
    clear hb2 HPK
    go_wp2_with fail
    go_loopg [] N (fun gn wr => ∃ q : Nat, q + gn = r ∧ q0 ≤ q ∧ Hid (Sn l q X g cap w wr))
    case atStart => exact ⟨q0, by omega, by omega, HS2⟩
    case round =>
      obtain ⟨q, hq, hpq, hS⟩ := hrel
      have HPK := Lib.hid (fun w2 (h1 : ScW l q X g cap w2) => npeek_any h1 hb)
      have HEN := Lib.hid (fun w2 (h1 : ScW l q X g cap w2) => nend_any h1)
      by_cases hin : q < r
      · have hC := HIN.out q hpq (by omega)
        have hql : q < l.length := by omega
        rw [decide_eq_false (by omega)] at HEN
        have HNX := Lib.hid (fun w2 (h1 : ScW l q X g cap w2) => nnext_any h1 hql HL.out hb)
        obtain ⟨n, hn⟩ : ∃ n, n = pk l q := ⟨_, rfl⟩
        rw [← hn] at hC HPK HNX
        have q1 : (n != 10) = true := by
          unfold noteC at hC
          simp only [Bool.and_eq_true, decide_eq_true_eq] at hC
          simpa using hC.1
        clear hC hn
        go_wp2_with fail
        refine (HPK.out _ hS.out.1).mono ?_
        rintro e w3 ⟨rfl, hb3⟩
        have hS3 := Lib.hid (hS.out.below hb3)
        clear hb3
        go_wp2_with fail
        refine (HEN.out _ hS3.out.1).mono ?_
        rintro e w4 ⟨rfl, hb4⟩
        have hS4 := Lib.hid (hS3.out.below hb4)
        clear hb4
        go_wp2_with fail
        refine (HNX.out _ hS4.out.1).mono ?_
        intro e w5 hmv
        obtain ⟨rfl, hs5⟩ := hS4.out.moved hmv
        have hS5 := Lib.hid hs5
        clear hmv hs5
        go_wp2_with fail
        go_roundg (gk - 1)
        case measure => omega
        case rel => exact ⟨q + 1, by omega, by omega, hS5⟩
      · obtain rfl : q = r := by omega
        have hC := HOUT.out
        rw [← hr] at hC
        by_cases hten : pk l q = 10
        · rw [hten] at HPK
          clear hC hten hin HEN
          go_wp2_with fail
          refine (HPK.out _ hS.out.1).mono ?_
          rintro e w3 ⟨rfl, hb3⟩
          have hS3 := Lib.hid (hS.out.below hb3)
          clear hb3
          obtain ⟨r, hrr⟩ : ∃ r, r = q := ⟨_, rfl⟩
          subst hrr
          have HCR := Lib.hid (fun w2 (h1 : ScW l r X g cap w2) => crlf_any h1 HL.out hb)
          by_cases hcr : pk l r = 13 ∧ pk l (r + 1) = 10
          · have HRR : Hid (lineT l r = (r + 2, true)) := Lib.hid (by unfold lineT; rw [if_pos hcr])
            rw [if_pos hcr, decide_eq_true hcr] at HCR
            clear hcr
            go_wp2_with fail
            refine (HCR.out _ hS3.out.1).mono ?_
            intro e w8 hmv
            obtain ⟨rfl, hs8⟩ := hS3.out.moved hmv
            have HS8 := Lib.hid hs8
            clear hmv hs8
            go_wp2_with fail
            go_ret
            rw [HRR.out]
            exact ⟨rfl, HS8.out.1, HS8.out.2⟩
          · rw [if_neg hcr, decide_eq_false hcr] at HCR
            by_cases h10 : pk l r = 10
            · have HRR : Hid (lineT l r = (r + 1, true)) := Lib.hid (by unfold lineT; rw [if_neg hcr, if_pos h10])
              have HI := Lib.hid (fun w2 (h1 : ScW l r X g cap w2) => is1_yes 10 10 rfl (by decide) h1 HL.out hb h10)
              clear hcr h10
              go_wp2_with fail
              refine (HCR.out _ hS3.out.1).mono ?_
              intro e w8 hmv
              obtain ⟨rfl, hs8⟩ := hS3.out.moved hmv
              have HS8 := Lib.hid hs8
              clear hmv hs8
              go_wp2_with fail
              refine (HI.out _ HS8.out.1).mono ?_
              intro e w9 hmv
              obtain ⟨rfl, hs9⟩ := HS8.out.moved hmv
              have HS9 := Lib.hid hs9
              clear hmv hs9
              go_wp2_with fail
              go_ret
              rw [HRR.out]
              exact ⟨rfl, HS9.out.1, HS9.out.2⟩
            · have HRR : Hid (lineT l r = (r, decide (l.length ≤ r))) := Lib.hid (by unfold lineT; rw [if_neg hcr, if_neg h10])
              have HI := Lib.hid (fun w2 (h1 : ScW l r X g cap w2) => is1_no 10 10 rfl (by decide) h1 HL.out hb h10)
              have HEN := Lib.hid (fun w2 (h1 : ScW l r X g cap w2) => nend_any h1)
              obtain ⟨be, hbe⟩ : ∃ b, b = decide (l.length ≤ r) := ⟨_, rfl⟩
              rw [← hbe] at HRR HEN
              clear hcr h10 hbe
              go_wp2_with fail
              refine (HCR.out _ hS3.out.1).mono ?_
              intro e w8 hmv
              obtain ⟨rfl, hs8⟩ := hS3.out.moved hmv
              have HS8 := Lib.hid hs8
              clear hmv hs8
              go_wp2_with fail
              refine (HI.out _ HS8.out.1).mono ?_
              intro e w9 hmv
              obtain ⟨rfl, hs9⟩ := HS8.out.moved hmv
              have HS9 := Lib.hid hs9
              clear hmv hs9
              go_wp2_with fail
              refine (HEN.out _ HS9.out.1).mono ?_
              rintro e w10 ⟨rfl, hb10⟩
              have HS10 := Lib.hid (HS9.out.below hb10)
              clear hb10
              cases be with
              | true =>
                go_wp2_with fail
                go_ret
                rw [HRR.out]
                exact ⟨rfl, HS10.out.1, HS10.out.2⟩
              | false =>
                go_wp2_with fail
                go_ret
                rw [HRR.out]
                exact ⟨rfl, HS10.out.1, HS10.out.2⟩
        · have hm1 : pk l q = -1 := by
            unfold noteC at hC
            by_cases h1 : pk l q = -1
            · exact h1
            · simp [hten, h1] at hC
          have hge : l.length ≤ q := by
            by_cases h1 : q < l.length
            · have := HL.out _ (List.getElem_mem h1)
              rw [pk_yes h1] at hm1
              rw [hm1] at this
              exact absurd this (by decide)
            · omega
          rw [decide_eq_true hge] at HEN
          rw [hm1] at HPK
          clear hC hten hin hm1 hge
          go_wp2_with fail
          refine (HPK.out _ hS.out.1).mono ?_
          rintro e w3 ⟨rfl, hb3⟩
          have hS3 := Lib.hid (hS.out.below hb3)
          clear hb3
          go_wp2_with fail
          refine (HEN.out _ hS3.out.1).mono ?_
          rintro e w4 ⟨rfl, hb4⟩
          have hS4 := Lib.hid (hS3.out.below hb4)
          clear hb4
          obtain ⟨r, hrr⟩ : ∃ r, r = q := ⟨_, rfl⟩
          subst hrr
          have HCR := Lib.hid (fun w2 (h1 : ScW l r X g cap w2) => crlf_any h1 HL.out hb)
          by_cases hcr : pk l r = 13 ∧ pk l (r + 1) = 10
          · have HRR : Hid (lineT l r = (r + 2, true)) := Lib.hid (by unfold lineT; rw [if_pos hcr])
            rw [if_pos hcr, decide_eq_true hcr] at HCR
            clear hcr
            go_wp2_with fail
            refine (HCR.out _ hS4.out.1).mono ?_
            intro e w8 hmv
            obtain ⟨rfl, hs8⟩ := hS4.out.moved hmv
            have HS8 := Lib.hid hs8
            clear hmv hs8
            go_wp2_with fail
            go_ret
            rw [HRR.out]
            exact ⟨rfl, HS8.out.1, HS8.out.2⟩
          · rw [if_neg hcr, decide_eq_false hcr] at HCR
            by_cases h10 : pk l r = 10
            · have HRR : Hid (lineT l r = (r + 1, true)) := Lib.hid (by unfold lineT; rw [if_neg hcr, if_pos h10])
              have HI := Lib.hid (fun w2 (h1 : ScW l r X g cap w2) => is1_yes 10 10 rfl (by decide) h1 HL.out hb h10)
              clear hcr h10
              go_wp2_with fail
              refine (HCR.out _ hS4.out.1).mono ?_
              intro e w8 hmv
              obtain ⟨rfl, hs8⟩ := hS4.out.moved hmv
              have HS8 := Lib.hid hs8
              clear hmv hs8
              go_wp2_with fail
              refine (HI.out _ HS8.out.1).mono ?_
              intro e w9 hmv
              obtain ⟨rfl, hs9⟩ := HS8.out.moved hmv
              have HS9 := Lib.hid hs9
              clear hmv hs9
              go_wp2_with fail
              go_ret
              rw [HRR.out]
              exact ⟨rfl, HS9.out.1, HS9.out.2⟩
            · have HRR : Hid (lineT l r = (r, decide (l.length ≤ r))) := Lib.hid (by unfold lineT; rw [if_neg hcr, if_neg h10])
              have HI := Lib.hid (fun w2 (h1 : ScW l r X g cap w2) => is1_no 10 10 rfl (by decide) h1 HL.out hb h10)
              have HEN := Lib.hid (fun w2 (h1 : ScW l r X g cap w2) => nend_any h1)
              obtain ⟨be, hbe⟩ : ∃ b, b = decide (l.length ≤ r) := ⟨_, rfl⟩
              rw [← hbe] at HRR HEN
              clear hcr h10 hbe
              go_wp2_with fail
              refine (HCR.out _ hS4.out.1).mono ?_
              intro e w8 hmv
              obtain ⟨rfl, hs8⟩ := hS4.out.moved hmv
              have HS8 := Lib.hid hs8
              clear hmv hs8
              go_wp2_with fail
              refine (HI.out _ HS8.out.1).mono ?_
              intro e w9 hmv
              obtain ⟨rfl, hs9⟩ := HS8.out.moved hmv
              have HS9 := Lib.hid hs9
              clear hmv hs9
              go_wp2_with fail
              refine (HEN.out _ HS9.out.1).mono ?_
              rintro e w10 ⟨rfl, hb10⟩
              have HS10 := Lib.hid (HS9.out.below hb10)
              clear hb10
              cases be with
              | true =>
                go_wp2_with fail
                go_ret
                rw [HRR.out]
                exact ⟨rfl, HS10.out.1, HS10.out.2⟩
              | false =>
                go_wp2_with fail
                go_ret
                rw [HRR.out]
                exact ⟨rfl, HS10.out.1, HS10.out.2⟩
  · have hr : noteT l p = gapT l p := by unfold noteT; rw [if_neg h35]
    have HPK := Lib.hid (fun w2 (h1 : ScW l (gapT l p) X g cap w2) => npeek_any h1 hb)
    rw [hr]
    obtain ⟨r, hq⟩ : ∃ r, r = gapT l p := ⟨_, rfl⟩
    rw [← hq] at HPK HGP h35 ⊢
    obtain ⟨c, hc⟩ : ∃ c, c = pk l r := ⟨_, rfl⟩
    rw [← hc] at HPK h35
    have q1 : (c == 35) = false := by simpa using h35
    clear h35 hr hq hc h hl
    go_enter Tryd.func44, Tryd.ntmps44
    go_wp2_with fail
    refine HGP.out.mono ?_
    intro e w1 hmv
    obtain ⟨rfl, hs1⟩ := HS.out.moved hmv
    have HS1 := Lib.hid hs1
    clear hmv hs1
    go_wp2_with fail
    refine (HPK.out _ HS1.out.1).mono ?_
    rintro e w2 ⟨rfl, hb2⟩
    have HS2 := Lib.hid (HS1.out.below hb2)
    clear hb2
    have HCR := Lib.hid (fun w2 (h1 : ScW l r X g cap w2) => crlf_any h1 HL.out hb)
    by_cases hcr : pk l r = 13 ∧ pk l (r + 1) = 10
    · have HRR : Hid (lineT l r = (r + 2, true)) := Lib.hid (by unfold lineT; rw [if_pos hcr])
      rw [if_pos hcr, decide_eq_true hcr] at HCR
      clear hcr
      go_wp2_with fail
      refine (HCR.out _ HS2.out.1).mono ?_
      intro e w8 hmv
      obtain ⟨rfl, hs8⟩ := HS2.out.moved hmv
      have HS8 := Lib.hid hs8
      clear hmv hs8
      go_wp2_with fail
      go_ret
      rw [HRR.out]
      exact ⟨rfl, HS8.out.1, HS8.out.2⟩
    · rw [if_neg hcr, decide_eq_false hcr] at HCR
      by_cases h10 : pk l r = 10
      · have HRR : Hid (lineT l r = (r + 1, true)) := Lib.hid (by unfold lineT; rw [if_neg hcr, if_pos h10])
        have HI := Lib.hid (fun w2 (h1 : ScW l r X g cap w2) => is1_yes 10 10 rfl (by decide) h1 HL.out hb h10)
        clear hcr h10
        go_wp2_with fail
        refine (HCR.out _ HS2.out.1).mono ?_
        intro e w8 hmv
        obtain ⟨rfl, hs8⟩ := HS2.out.moved hmv
        have HS8 := Lib.hid hs8
        clear hmv hs8
        go_wp2_with fail
        refine (HI.out _ HS8.out.1).mono ?_
        intro e w9 hmv
        obtain ⟨rfl, hs9⟩ := HS8.out.moved hmv
        have HS9 := Lib.hid hs9
        clear hmv hs9
        go_wp2_with fail
        go_ret
        rw [HRR.out]
        exact ⟨rfl, HS9.out.1, HS9.out.2⟩
      · have HRR : Hid (lineT l r = (r, decide (l.length ≤ r))) := Lib.hid (by unfold lineT; rw [if_neg hcr, if_neg h10])
        have HI := Lib.hid (fun w2 (h1 : ScW l r X g cap w2) => is1_no 10 10 rfl (by decide) h1 HL.out hb h10)
        have HEN := Lib.hid (fun w2 (h1 : ScW l r X g cap w2) => nend_any h1)
        obtain ⟨be, hbe⟩ : ∃ b, b = decide (l.length ≤ r) := ⟨_, rfl⟩
        rw [← hbe] at HRR HEN
        clear hcr h10 hbe
        go_wp2_with fail
        refine (HCR.out _ HS2.out.1).mono ?_
        intro e w8 hmv
        obtain ⟨rfl, hs8⟩ := HS2.out.moved hmv
        have HS8 := Lib.hid hs8
        clear hmv hs8
        go_wp2_with fail
        refine (HI.out _ HS8.out.1).mono ?_
        intro e w9 hmv
        obtain ⟨rfl, hs9⟩ := HS8.out.moved hmv
        have HS9 := Lib.hid hs9
        clear hmv hs9
        go_wp2_with fail
        refine (HEN.out _ HS9.out.1).mono ?_
        rintro e w10 ⟨rfl, hb10⟩
        have HS10 := Lib.hid (HS9.out.below hb10)
        clear hb10
        cases be with
        | true =>
          go_wp2_with fail
          go_ret
          rw [HRR.out]
          exact ⟨rfl, HS10.out.1, HS10.out.2⟩
        | false =>
          go_wp2_with fail
          go_ret
          rw [HRR.out]
          exact ⟨rfl, HS10.out.1, HS10.out.2⟩
end Go.Proofs.YtbchkhjkajagfaaDoor
