/- Plain laws: decimal texts and their numbers; what the library's own parser and printer say of them. No program in sight. -/
import Derived.Test.YtghimladdioajaaBigPlain
import Derived.Test.YtghimladdioajaaSumPlain
import Derived.Shelf.Strings.FuncGrows
import Derived.Lib.ParseIntBTie
import Derived.Lib.ItoaMem
namespace Go.Proofs.Ytghimladdioajaa
open Go Go.RowKit
def isDig (c : UInt8) : Bool := decide (48 ≤ c.toNat) && decide (c.toNat ≤ 57)
def notDig (x : Nat) : Bool := decide (x < 48) || decide (57 < x)
def bodyT : List UInt8 → List UInt8
  | [] => []
  | c :: r => if c.toNat = 43 ∨ c.toNat = 45 then r else c :: r
def negT : List UInt8 → Bool
  | [] => false
  | c :: _ => decide (c.toNat = 45)
def magF (a : Nat) (l : List UInt8) : Nat := l.foldl (fun a c => a * 10 + (c.toNat - 48)) a
def isNum (l : List UInt8) : Bool := !(bodyT l).isEmpty && (bodyT l).all isDig
def numT (l : List UInt8) : Int := if negT l then -(magF 0 (bodyT l) : Int) else magF 0 (bodyT l)
/-- the number that is told, and the error -/
def nP (l : List UInt8) : Int := if isNum l && fits (numT l) then numT l else 0
def eP (l : List UInt8) : Int := if isNum l then (if fits (numT l) then 0 else 9) else 1
theorem magF_cons (a : Nat) (c : UInt8) (r : List UInt8) : magF a (c :: r) = magF (a * 10 + (c.toNat - 48)) r := by
  unfold magF; rw [List.foldl_cons]
theorem magF_ge (l : List UInt8) : ∀ a, a ≤ magF a l := by
  induction l with
  | nil => exact fun a => Nat.le_refl _
  | cons c r ih => intro a; rw [magF_cons]; have := ih (a * 10 + (c.toNat - 48)); omega
theorem magF_snoc (a : Nat) (l : List UInt8) (c : UInt8) : magF a (l ++ [c]) = magF a l * 10 + (c.toNat - 48) := by
  unfold magF; rw [List.foldl_append]; rfl
theorem isDig_iff (c : UInt8) : isDig c = true ↔ 48 ≤ c.toNat ∧ c.toNat ≤ 57 := by simp [isDig]
theorem parse_fold (M : Nat) (hM : 18446744073709551615 ≤ M) (hM' : M ≤ 18446744073709551615) (l : List UInt8) (h : l.all isDig = true) : ∀ acc, acc ≤ M →
    Lib.parseUintM M acc l = if magF acc l ≤ M then .ok (magF acc l) else .range := by
  induction l with
  | nil => intro acc ha; rw [show magF acc [] = acc from rfl, if_pos ha, Lib.parseUintM]
  | cons c r ih =>
    intro acc ha
    rw [List.all_cons, Bool.and_eq_true] at h
    have hc := (isDig_iff c).1 h.1
    have hm := magF_ge r (acc * 10 + (c.toNat - 48))
    rw [Lib.parseUintM, if_pos hc, magF_cons]
    by_cases h1 : 1844674407370955162 ≤ acc
    · rw [if_pos h1, if_neg (by omega)]
    · rw [if_neg h1]
      by_cases h2 : M < acc * 10 + (c.toNat - 48)
      · rw [if_pos h2, if_neg (by omega)]
      · rw [if_neg h2, ih h.2 _ (by omega)]
theorem parse_body (r : List UInt8) (h0 : r ≠ []) (h : r.all isDig = true) : Lib.parseUintB 64 r = if magF 0 r ≤ 18446744073709551615 then .ok (magF 0 r) else .range := by
  have e : (2 : Nat) ^ 64 - 1 = 18446744073709551615 := by decide
  unfold Lib.parseUintB
  rw [if_neg h0, e]
  exact parse_fold _ (Nat.le_refl _) (Nat.le_refl _) r h 0 (Nat.zero_le _)
/-- the library's parser, at digits behind a sign -/
theorem parse_num (l : List UInt8) (h : isNum l = true) : Lib.parseIntB 64 l = if fits (numT l) then .ok (numT l) else .range := by
  have e : (2 : Nat) ^ (64 - 1) = 9223372036854775808 := by decide
  unfold isNum at h
  rw [Bool.and_eq_true] at h
  obtain ⟨h1, h2⟩ := h
  have h0 : bodyT l ≠ [] := by intro hh; rw [hh] at h1; simp at h1
  have hb := parse_body _ h0 h2
  cases l with
  | nil => exact absurd rfl h0
  | cons c r =>
    have sl : ∀ u : Nat, magF 0 (bodyT (c :: r)) = u → numT (c :: r) = (u : Int) → Lib.signlessC 9223372036854775808 (if u ≤ 18446744073709551615 then .ok u else .range) = if fits (numT (c :: r)) then .ok (numT (c :: r)) else .range := by
      intro u _ hn
      rw [hn]
      by_cases hf : fits (u : Int) = true
      · have := (fits_iff _).1 hf
        rw [if_pos hf, if_pos (by omega)]
        show (if 9223372036854775808 ≤ u then _ else _) = _
        rw [if_neg (by omega)]
      · rw [if_neg hf]
        have hn : ¬ ((-9223372036854775808 : Int) ≤ u ∧ (u : Int) ≤ 9223372036854775807) := fun hh => hf ((fits_iff _).2 hh)
        by_cases hu : u ≤ 18446744073709551615
        · rw [if_pos hu]
          show (if 9223372036854775808 ≤ u then _ else _) = _
          rw [if_pos (by omega)]
        · rw [if_neg hu]; rfl
    have sg : ∀ u : Nat, magF 0 (bodyT (c :: r)) = u → numT (c :: r) = -(u : Int) → Lib.signedC 9223372036854775808 (if u ≤ 18446744073709551615 then .ok u else .range) = if fits (numT (c :: r)) then .ok (numT (c :: r)) else .range := by
      intro u _ hn
      rw [hn]
      by_cases hf : fits (-(u : Int)) = true
      · have := (fits_iff _).1 hf
        rw [if_pos hf, if_pos (by omega)]
        show (if 9223372036854775808 < u then _ else _) = _
        rw [if_neg (by omega)]
      · rw [if_neg hf]
        have hn : ¬ ((-9223372036854775808 : Int) ≤ -(u : Int) ∧ -(u : Int) ≤ 9223372036854775807) := fun hh => hf ((fits_iff _).2 hh)
        by_cases hu : u ≤ 18446744073709551615
        · rw [if_pos hu]
          show (if 9223372036854775808 < u then _ else _) = _
          rw [if_pos (by omega)]
        · rw [if_neg hu]; rfl
    by_cases h43 : c.toNat = 43
    · obtain rfl : c = 43 := UInt8.toNat_inj.1 h43
      rw [Lib.parseIntB_plus, e]
      have hbt : bodyT (43 :: r) = r := rfl
      rw [hbt] at hb
      rw [hb]
      exact sl _ (by rw [hbt]) rfl
    by_cases h45 : c.toNat = 45
    · obtain rfl : c = 45 := UInt8.toNat_inj.1 h45
      rw [Lib.parseIntB_minus, e]
      have hbt : bodyT (45 :: r) = r := rfl
      rw [hbt] at hb
      rw [hb]
      exact sg _ (by rw [hbt]) rfl
    · rw [Lib.parseIntB_plain 64 c r h43 h45, e]
      have hbt : bodyT (c :: r) = c :: r := by show (if c.toNat = 43 ∨ c.toNat = 45 then r else c :: r) = _; rw [if_neg (by omega)]
      rw [hbt] at hb
      rw [hb]
      refine sl _ (by rw [hbt]) ?_
      unfold numT
      rw [hbt, show negT (c :: r) = decide (c.toNat = 45) from rfl, decide_eq_false h45]; rfl
theorem notDig_iff (x : Nat) : notDig x = true ↔ ¬ (48 ≤ x ∧ x ≤ 57) := by unfold notDig; simp; omega
theorem notDig_no (x : Nat) (h : 48 ≤ x ∧ x ≤ 57) : notDig x = false := by
  rw [Bool.eq_false_iff]; exact fun hh => (notDig_iff x).1 hh h
theorem get_atT (s : ByteArray) (i k : Nat) : (s.get! (i + k)).toNat = ((s.data.toList.drop i).getD k 0).toNat := by
  rw [List.getD_eq_getElem?_getD, List.getElem?_drop]
  by_cases h : i + k < s.size
  · have e : s.get! (i + k) = s[i + k]'h := by
      show s.get! (i + k) = _
      simp [ByteArray.get!, getElem!_pos, h]
      rfl
    rw [e]
    have : s.data.toList[i + k]? = some (s[i + k]'h) := by
      rw [List.getElem?_eq_getElem (by simpa using h)]; rfl
    rw [this]; rfl
  · have : s.data.toList[i + k]? = none := List.getElem?_eq_none (by simpa using h)
    rw [this]
    have hn : ¬ (i + k < s.data.size) := h
    show (s.data[i + k]!).toNat = _
    rw [getElem!_neg s.data (i + k) hn]
    rfl
theorem dec_low (s : ByteArray) (i : Nat) (b : UInt8) (t : List UInt8) (h : s.data.toList.drop i = b :: t) (hb : b.toNat < 128) : Utf8.decode s i = (b.toNat, 1) := by
  have e := get_atT s i 0
  rw [h] at e
  have e0 : (s.get! i).toNat = b.toNat := e
  unfold Utf8.decode
  simp only [Nat.add_zero, e0]
  rw [if_pos hb]
theorem dec_high (s : ByteArray) (i : Nat) (b : UInt8) (t : List UInt8) (h : s.data.toList.drop i = b :: t) (hb : 128 ≤ b.toNat) : 128 ≤ (Utf8.decode s i).1 := by
  have e := get_atT s i 0
  rw [h] at e
  have e0 : (s.get! i).toNat = b.toNat := e
  unfold Utf8.decode
  simp only [Nat.add_zero, e0]
  rw [if_neg (by omega)]
  repeat' split
  all_goals (simp_all [Utf8.runeError] <;> omega)
theorem idx_all (s : ByteArray) : ∀ (f pos : Nat), (∀ b ∈ s.data.toList.drop pos, isDig b = true) → Lib.idxFuncFrom notDig true s f pos = -1 := by
  intro f
  induction f with
  | zero => exact fun _ _ => rfl
  | succ f ih =>
    intro pos h
    by_cases hp : pos < s.size
    · have hl : pos < s.data.toList.length := by simpa using hp
      have hd := List.drop_eq_getElem_cons hl
      have hb := h _ (by rw [hd]; exact List.mem_cons_self)
      have hc := (isDig_iff _).1 hb
      have hdec := dec_low s pos _ _ hd (by omega)
      have hnd : notDig (s.data.toList[pos]'hl).toNat = false := notDig_no _ hc
      unfold Lib.idxFuncFrom
      rw [hdec]
      simp only [hp, hnd, if_true, Bool.false_eq_true, if_false]
      exact ih (pos + 1) (fun b hb' => h b (by rw [hd]; exact List.mem_cons_of_mem _ hb'))
    · exact Lib.idxFuncFrom_end _ _ _ _ _ hp
theorem idx_some (s : ByteArray) : ∀ (f pos : Nat), (∃ b ∈ s.data.toList.drop pos, isDig b = false) → s.size ≤ pos + f → 0 ≤ Lib.idxFuncFrom notDig true s f pos := by
  intro f
  induction f with
  | zero =>
    intro pos ⟨b, hb, _⟩ hf
    rw [List.drop_eq_nil_of_le (by simpa using hf)] at hb
    cases hb
  | succ f ih =>
    intro pos ⟨b, hb, hbd⟩ hf
    have hp : pos < s.size := by
      rcases Nat.lt_or_ge pos s.size with h | h
      · exact h
      · rw [List.drop_eq_nil_of_le (by simpa using h)] at hb; cases hb
    have hl : pos < s.data.toList.length := by simpa using hp
    have hd := List.drop_eq_getElem_cons hl
    unfold Lib.idxFuncFrom
    by_cases hx : isDig (s.data.toList[pos]'hl) = true
    · have hc := (isDig_iff _).1 hx
      have hdec := dec_low s pos _ _ hd (by omega)
      have hnd : notDig (s.data.toList[pos]'hl).toNat = false := notDig_no _ hc
      rw [hdec]
      simp only [hp, hnd, if_true, Bool.false_eq_true, if_false]
      refine ih (pos + 1) ⟨b, ?_, hbd⟩ (by omega)
      rw [hd] at hb
      rcases List.mem_cons.1 hb with h | h
      · rw [h, hx] at hbd; cases hbd
      · exact h
    · have hnd : notDig (Utf8.decode s pos).1 = true := by
        have hc : ¬ (48 ≤ (s.data.toList[pos]'hl).toNat ∧ (s.data.toList[pos]'hl).toNat ≤ 57) := fun hh => hx ((isDig_iff _).2 hh)
        by_cases h128 : (s.data.toList[pos]'hl).toNat < 128
        · rw [dec_low s pos _ _ hd h128]; exact (notDig_iff _).2 hc
        · have := dec_high s pos _ _ hd (by omega)
          exact (notDig_iff _).2 (by omega)
      simp only [hp, hnd, if_true]
      omega
/-- the library's look for what is no digit -/
theorem idx_dig (s : ByteArray) : decide (0 ≤ Lib.idxFunc notDig true s) = !s.data.toList.all isDig := by
  unfold Lib.idxFunc
  cases h : s.data.toList.all isDig with
  | true =>
    rw [idx_all s _ 0 (fun b hb => List.all_eq_true.1 h b hb)]; rfl
  | false =>
    have : ∃ b ∈ s.data.toList.drop 0, isDig b = false := by
      rw [List.all_eq_false] at h
      obtain ⟨b, hb, hh⟩ := h
      exact ⟨b, hb, by simpa using hh⟩
    have := idx_some s s.size 0 this (by omega)
    simpa using this
/-- the digits of a text, the lowest first -/
def digs (l : List UInt8) : List Int := l.reverse.map (fun c => (c.toNat : Int) - 48)
theorem digs_len (l : List UInt8) : (digs l).length = l.length := by simp [digs]
theorem digs_good (l : List UInt8) (h : l.all isDig = true) : Good (digs l) := by
  intro d hd
  simp only [digs, List.mem_map, List.mem_reverse] at hd
  obtain ⟨c, hc, rfl⟩ := hd
  have := (isDig_iff c).1 (List.all_eq_true.1 h c hc)
  omega
theorem digs_val (l : List UInt8) (h : l.all isDig = true) : val (digs l) = (magF 0 l : Int) := by
  have key : ∀ m : List UInt8, (∀ c ∈ m, isDig c = true) → val (m.map (fun c => (c.toNat : Int) - 48)) = (magF 0 m.reverse : Int) := by
    intro m
    induction m with
    | nil => intro _; rfl
    | cons c m ih =>
      intro hm
      have h1 := (isDig_iff c).1 (hm c List.mem_cons_self)
      have h2 := ih (fun x hx => hm x (List.mem_cons_of_mem _ hx))
      rw [List.reverse_cons, magF_snoc, List.map_cons]
      simp only [val, h2]
      omega
  have := key l.reverse (fun c hc => List.all_eq_true.1 h c (List.mem_reverse.1 hc))
  rw [List.reverse_reverse] at this
  exact this
def chD (d : Int) : UInt8 := UInt8.ofNat (48 + d.toNat)
theorem norm_tail {d : Int} {t : List Int} (h : Norm (d :: t)) (ht : t ≠ []) : Norm t := by
  rcases h with h | ⟨m, x, h1, h2⟩
  · cases h
  · cases m with
    | nil => simp at h1; exact absurd h1.2 ht
    | cons y m => simp at h1; exact .inr ⟨m, x, h1.2, h2⟩
/-- digits, the highest first, are the numeral -/
theorem dec_digs (ds : List Int) : ∀ u : Nat, Good ds → Norm ds → val ds = (u : Int) → ds ≠ [] → ds.reverse.map chD = Lib.decDigits u := by
  induction ds with
  | nil => intro u _ _ _ h; exact absurd rfl h
  | cons d t ih =>
    intro u hg hn hv _
    have hd := hg d List.mem_cons_self
    have hgt : Good t := good_sub hg fun x hx => List.mem_cons_of_mem _ hx
    have h0 := val_nonneg hgt
    simp only [val] at hv
    rw [List.reverse_cons, List.map_append, List.map_cons, List.map_nil]
    by_cases ht : t = []
    · subst ht
      simp only [val] at hv
      rw [Lib.decDigits, dif_pos (by omega)]
      have : d.toNat = u := by omega
      simp [chD, this]
    · have hp := val_ge hgt (norm_tail hn ht) ht
      have ht1 := ten_pos (t.length - 1)
      rw [Lib.decDigits, dif_neg (by omega), ih (u / 10) hgt (norm_tail hn ht) (by omega) ht]
      have : d.toNat = u % 10 := by omega
      rw [chD, this]
theorem dec_all (u : Nat) : (Lib.decDigits u).all isDig = true ∧ magF 0 (Lib.decDigits u) = u ∧ Lib.decDigits u ≠ [] := by
  have hone : ∀ x, x < 10 → (UInt8.ofNat (48 + x)).toNat = 48 + x := fun x hx => by
    rw [UInt8.toNat_ofNat']; omega
  induction u using Nat.strongRecOn with
  | _ u ih =>
    by_cases h : u < 10
    · rw [Lib.decDigits, dif_pos h]
      refine ⟨?_, ?_, by simp⟩
      · simp [isDig]; omega
      · show 0 * 10 + ((UInt8.ofNat (48 + u)).toNat - 48) = u
        rw [hone u h]; omega
    · rw [Lib.decDigits, dif_neg h]
      obtain ⟨h1, h2, h3⟩ := ih (u / 10) (by omega)
      refine ⟨?_, ?_, by simp⟩
      · rw [List.all_append, h1]
        simp [isDig]; omega
      · rw [magF_snoc, h2, hone (u % 10) (by omega)]; omega
theorem dec_body (u : Nat) : bodyT (Lib.decDigits u) = Lib.decDigits u ∧ negT (Lib.decDigits u) = false := by
  obtain ⟨h1, _, h3⟩ := dec_all u
  cases hd : Lib.decDigits u with
  | nil => exact absurd hd h3
  | cons c r =>
    rw [hd, List.all_cons, Bool.and_eq_true] at h1
    have := (isDig_iff c).1 h1.1
    constructor
    · show (if c.toNat = 43 ∨ c.toNat = 45 then r else c :: r) = _; rw [if_neg (by omega)]
    · show decide (c.toNat = 45) = false; rw [decide_eq_false (by omega)]
/-- noughts ahead change nothing -/
theorem mag_noughts (k : Nat) (l : List UInt8) : magF 0 (List.replicate k 48 ++ l) = magF 0 l := by
  induction k with
  | zero => rfl
  | succ k ih => rw [List.replicate_succ, List.cons_append, magF_cons]; exact ih
theorem all_noughts (k : Nat) (l : List UInt8) (h : l.all isDig = true) : (List.replicate k 48 ++ l).all isDig = true := by
  rw [List.all_append, h, Bool.and_true, List.all_eq_true]
  intro c hc
  rw [(List.mem_replicate.1 hc).2]; decide
theorem num_of {l b : List UInt8} {n : Int} (sg : Bool) (hb : bodyT l = b) (hs : negT l = sg) (h0 : b ≠ []) (ha : b.all isDig = true) (hv : n = if sg then -(magF 0 b : Int) else magF 0 b) : isNum l = true ∧ numT l = n := by
  constructor
  · unfold isNum; rw [hb, ha, Bool.and_true]; simp [h0]
  · unfold numT; rw [hb, hs]; exact hv.symm
/-- what is printed is parsed as what it was -/
theorem itoa_num (n : Int) : isNum (Lib.itoa n) = true ∧ numT (Lib.itoa n) = n := by
  unfold Lib.itoa
  by_cases h : n < 0
  · rw [if_pos h]
    obtain ⟨h1, h2, h3⟩ := dec_all n.natAbs
    refine num_of true (b := Lib.decDigits n.natAbs) rfl rfl h3 h1 ?_
    rw [h2]; simp; omega
  · rw [if_neg h]
    obtain ⟨h1, h2, h3⟩ := dec_all n.toNat
    refine num_of false (dec_body _).1 (dec_body _).2 h3 h1 ?_
    rw [h2]; simp; omega
theorem plus_num (n : Int) (k : Nat) (h : ¬ n < 0) : isNum (43 :: (List.replicate k 48 ++ Lib.itoa n)) = true ∧ numT (43 :: (List.replicate k 48 ++ Lib.itoa n)) = n := by
  unfold Lib.itoa
  rw [if_neg h]
  obtain ⟨h1, h2, h3⟩ := dec_all n.toNat
  refine num_of false (b := List.replicate k 48 ++ Lib.decDigits n.toNat) rfl rfl (by simp [h3]) (all_noughts _ _ h1) ?_
  rw [mag_noughts, h2]; simp; omega
theorem minus_num (n : Int) (k : Nat) (h : n < 0) : isNum (45 :: (List.replicate k 48 ++ (Lib.itoa n).drop 1)) = true ∧ numT (45 :: (List.replicate k 48 ++ (Lib.itoa n).drop 1)) = n := by
  unfold Lib.itoa
  rw [if_pos h, List.drop_succ_cons, List.drop_zero]
  obtain ⟨h1, h2, h3⟩ := dec_all n.natAbs
  refine num_of true (b := List.replicate k 48 ++ Lib.decDigits n.natAbs) rfl rfl (by simp [h3]) (all_noughts _ _ h1) ?_
  rw [mag_noughts, h2]; simp; omega
end Go.Proofs.Ytghimladdioajaa
