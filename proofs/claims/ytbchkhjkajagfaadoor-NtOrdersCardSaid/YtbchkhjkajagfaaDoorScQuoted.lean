/- A quoted text's plain form, and the contract of Scanner.Quoted. -/
import Derived.Test.YtbchkhjkajagfaaDoorScIs
import Derived.Deep.Cut
import Derived.Deep.CutRange
namespace Go.Proofs.YtbchkhjkajagfaaDoor
open Go Go.RowKit
set_option maxRecDepth 100000
set_option linter.unusedVariables false
/-- the signs of a quoted text, from behind its first mark: how many more may be read, the place, what is read -/
def qgo (l : List Int) : Nat → Nat → List Int → Option (List Int) × Nat
  | 0, i, _ => (none, i)
  | f + 1, i, acc => if h : i < l.length then
      (if l[i]'h = 34 then (some acc, i + 1)
      else if l[i]'h = 92 then (match escV l (i + 1) with | (some x, j) => qgo l f j (acc ++ [x]) | (none, j) => (none, j))
      else if l[i]'h = 10 ∨ l[i]'h = 13 then (none, i)
      else qgo l f (i + 1) (acc ++ [l[i]'h])) else (none, i)
def quotedV (l : List Int) (p : Nat) : Option (List Int) × Nat := if (l.drop p).take 1 = [34] then qgo l (l.length - p) (p + 1) [] else (none, p)
theorem qgo_end (l : List Int) (f i : Nat) (acc : List Int) (h : ¬ i < l.length) : qgo l f i acc = (none, i) := by
  cases f with
  | zero => rfl
  | succ f => unfold qgo; rw [dif_neg h]
theorem numV_some (l : List Int) : ∀ (k i : Nat) (s x : Int) (j : Nat), numV l k i s = (some x, j) → i ≤ j ∧ (i ≤ l.length → j ≤ l.length) ∧ SignP x := by
  intro k
  induction k with
  | zero =>
    intro i s x j h
    unfold numV at h
    split at h
    · injection h with h1 h2; injection h1 with h1; subst h1 h2; exact ⟨Nat.le_refl _, fun h => h, by assumption⟩
    · injection h with h1 h2; cases h1
  | succ k ih =>
    intro i s x j h
    unfold numV at h
    split at h
    · split at h
      · injection h with h1 h2; cases h1
      · obtain ⟨h1, h2, h3⟩ := ih _ _ _ _ h
        exact ⟨by omega, fun _ => h2 (by omega), h3⟩
    · injection h with h1 h2; cases h1
theorem escOf_sign {c x : Int} (h : escOf c = some x) : SignP x := by
  unfold escOf at h
  unfold SignP
  (repeat' split at h) <;> (first | (injection h with h; omega) | cases h)
theorem escV_some {l : List Int} {i j : Nat} {x : Int} (h : escV l i = (some x, j)) : i + 1 ≤ j ∧ j ≤ l.length ∧ SignP x := by
  unfold escV at h
  split at h
  · split at h
    · injection h with h1 h2; injection h1 with h1; subst h1 h2; exact ⟨Nat.le_refl _, by omega, escOf_sign (by assumption)⟩
    · split at h
      · obtain ⟨h1, h2, h3⟩ := numV_some _ _ _ _ _ _ h
        exact ⟨h1, h2 (by omega), h3⟩
      · split at h
        · obtain ⟨h1, h2, h3⟩ := numV_some _ _ _ _ _ _ h
          exact ⟨h1, h2 (by omega), h3⟩
        · injection h with h1 h2; cases h1
  · injection h with h1 h2; cases h1
def rsV (l : List Int) : List Value := l.map (Value.int .i32)
theorem rsV_snoc (l : List Int) (n : Int) : rsV (l ++ [n]) = rsV l ++ [.int .i32 n] := by unfold rsV; rw [List.map_append]; rfl
theorem infoRune : (Tryd.prog.info? 21).map (fun i => (i.zero, i.size, i.bytes)) = some (some (.int .i32 0), 1, 4) := by kernel_rfl
theorem own_sk {w w' : World} {B X : Nat} {e : TypeId} {s : Nat} {v : Value} {n : Nat} {xs : List Value} (h : w.ownsRow B e s v n xs) (hb : SK X w w') (hX : X < B) : w'.ownsRow B e s v n xs := by
  refine ⟨h.1, ?_⟩
  rcases h.2 with hn | ⟨g, cap, cur, rfl, hbg, hgg, rest⟩
  · exact .inl hn
  · exact .inr ⟨g, cap, cur, rfl, hbg, (hb.2 g (Array.getElem?_eq_some_iff.1 hgg).1 (by omega)).trans hgg, rest⟩
theorem rune_back (w : World) (base : Nat) (a : Option Addr) (c : Nat) (acc : List Int) (hl : ∀ n ∈ acc, SignP n) (ho : w.ownsRow base 21 1 (.slice a acc.length c) acc.length (rsV acc)) :
    (convert 79 9 (.slice a acc.length c)).run Tryd.prog w = .ok (.string (tBytes acc)) w := by
  rcases ho.2 with ⟨h1, h2⟩ | ⟨g, c', cur, h1, _⟩
  · injection h1 with e1 e2 e3
    have : acc = [] := List.eq_nil_of_length_eq_zero e2
    subst e1 e3 this
    rw [run_convert_runes_string w 79 9 21 none _ _ Tryd.underlying79 Tryd.underlying21 Tryd.underlying9]
    simp [Conv.runesToString]
    rfl
  · injection h1 with e1 _ _
    subst e1
    have := run_convert_runes (P := Tryd.prog) w 79 9 21 ⟨g, 0, none⟩ acc.length c acc (Nat.le_refl _) Tryd.underlying79 Tryd.underlying21 Tryd.underlying9 (by
      intro j hj
      exact ho.cells (g := g) rfl j (.int .i32 (acc.getD j 0)) (by unfold rsV; rw [List.getElem?_map, List.getD_eq_getElem?_getD, List.getElem?_eq_getElem hj]; rfl))
    rw [this, List.take_length, runes_text _ hl]
    rfl
/-- what the loop keeps: the scanner, the signs that are read in a row of their own, what lay before -/
def QS (l : List Int) (i X g cap : Nat) (w : World) (acc : List Int) (a : Option Addr) (c : Nat) (wr : World) : Prop :=
  ScW l i X g cap wr ∧ SK X w wr ∧ wr.ownsRow w.heap.size 21 1 (.slice a acc.length c) acc.length (rsV acc) ∧ w.heap.size ≤ wr.heap.size ∧ X < w.heap.size ∧ g < w.heap.size
theorem QS.sk {l : List Int} {i i' X g cap : Nat} {w : World} {acc : List Int} {a : Option Addr} {c : Nat} {wr w' : World} (h : QS l i X g cap w acc a c wr) (hs : ScW l i' X g cap w') (hk : SK X wr w') : QS l i' X g cap w acc a c w' :=
  ⟨hs, h.2.1.trans hk, own_sk h.2.2.1 hk h.2.2.2.2.1, Nat.le_trans h.2.2.2.1 hk.1.size, h.2.2.2.2⟩
theorem QS.keep {l : List Int} {i X g cap : Nat} {w : World} {acc : List Int} {a : Option Addr} {c : Nat} {wr w' : World} (h : QS l i X g cap w acc a c wr) (hb : Below wr.heap.size wr w') : QS l i X g cap w acc a c w' :=
  h.sk (h.1.keep hb) (SK.below hb (Nat.le_of_lt h.1.lt))
theorem QS.put {l : List Int} {i X g cap : Nat} {w : World} {acc : List Int} {a : Option Addr} {c : Nat} {wr : World} (h : QS l i X g cap w acc a c wr) (q : Nat) (hq : q ≤ l.length) : QS l q X g cap w acc a c (wr.setCell ⟨X, 1, none⟩ (.int .i64 q)) :=
  h.sk (h.1.put q hq) (SK.set _ _ _)
theorem QS.grow {l : List Int} {i X g cap : Nat} {w : World} {acc : List Int} {a a' : Option Addr} {c c' : Nat} {wr w' : World} (h : QS l i X g cap w acc a c wr) (n : Int)
    (ho : w'.ownsRow w.heap.size 21 1 (.slice a' (acc.length + 1) c') (acc.length + 1) (rsV acc ++ [.int .i32 n])) (hb : Below w.heap.size wr w') : QS l i X g cap w (acc ++ [n]) a' c' w' := by
  obtain ⟨h1, h2, h3, h4, h5, h6⟩ := h
  refine ⟨h1.same (hb.block X h5) (hb.block g h6) hb.size, ⟨h2.1.trans (hb.mono (Nat.le_of_lt h5)), fun k hk hne => (hb.block k hk).trans (h2.2 k hk hne)⟩, ?_, Nat.le_trans h4 hb.size, h5, h6⟩
  rw [List.length_append, rsV_snoc]
  exact ho
theorem QS.drewN {l : List Int} {i X g cap : Nat} {w : World} {acc : List Int} {a : Option Addr} {c : Nat} {wr : World} (h : QS l i X g cap w acc a c wr) (n : Nat) : QS l i X g cap w acc a c (wr.drewN n) := h.keep (below_drewN (Below.refl _ _) n)
def QRes (l : List Int) (p X g cap : Nat) (w : World) (R : Option (List Int) × Nat) (e : Ending) (w' : World) : Prop :=
  e = .returned (.tuple #[.string (tBytes (R.1.getD [])), .int .i64 R.2, .int .i64 (if R.1.isSome then 0 else 1)]) ∧ ScW l (if R.1.isSome then R.2 else p) X g cap w' ∧ SK X w w'
theorem quot_read : Read ([34] : List UInt8) [34] [] := ⟨by decide, (fun n hn => by obtain rfl := List.mem_singleton.1 hn; exact .inl ⟨by omega, by omega⟩), noSign_nil⟩
set_option maxHeartbeats 6400000 in
set_option maxRecDepth 100000 in
theorem quoted_any (l : List Int) (p X g cap : Nat) (w : World) (h : ScW l p X g cap w) (he : Esc w) (hX0 : 0 < X) (hl : ∀ n ∈ l, SignP n) (hb : l.length ≤ 100000) :
    Calls Tryd.prog 68 #[.pointer (some ⟨X, 0, none⟩)] w (QRes l p X g cap w (quotedV l p)) := by
  obtain ⟨i0, hi, hz0, hz1, hz2⟩ := info_parts infoRune
  have HIS := Lib.hid (is_any ⟨#[34]⟩ [34] l p X g cap w quot_read (by decide) h hl (by omega))
  have HSK := Lib.hid h
  have HL := Lib.hid hl
  have HE := Lib.hid he
  have hp := h.2.2.2.2.1
  have hX := h.lt
  have hg := h.2.2.2.2.2
  obtain ⟨c0, c1, f1⟩ := h.cells
  obtain ⟨R, hR⟩ : ∃ R, R = quotedV l p := ⟨_, rfl⟩
  have HR := Lib.hid hR
  rw [← hR]
  clear h hl he hR c0
  by_cases hq : (l.drop p).take 1 = [34]
  · have HI2 : Hid (Calls Tryd.prog 66 #[.pointer (some ⟨X, 0, none⟩), .string ⟨#[34]⟩] w (Moved l (p + 1) X g cap (.bool true) w)) := Lib.hid (by
      have := HIS.out
      rw [show ([34] : List Int).length = 1 from rfl, if_pos hq, decide_eq_true hq] at this
      exact this)
    have HR2 : Hid (qgo l (l.length - p) (p + 1) [] = R) := Lib.hid (by rw [HR.out]; unfold quotedV; rw [if_pos hq])
    have hp1 : p < l.length := by
      have := congrArg List.length hq
      rw [List.length_take, List.length_drop] at this
      simp at this
      omega
    clear hq HIS HR
    go_enter Tryd.func68, Tryd.ntmps68
    go_wp2_with fail
    refine HI2.out.mono ?_
    rintro e w1 ⟨rfl, hs1, hk1⟩
    have H0 : Hid (QS l (p + 1) X g cap w [] none 0 w1) := Lib.hid ⟨hs1, hk1, World.ownsRow_nil _ _ _ _, hk1.1.size, hX, hg⟩
    clear hs1 hk1 HI2 c1 f1 HSK
    go_wp2_with fail
    go_loopg [6, 7] (l.length - p + 1) (fun gn s6 s7 wr => ∃ i : Nat, Hid (ScW l i X g cap wr) ∧ Hid (SK X w wr) ∧ ((gn = 0 ∧ s7 = .bool false ∧ Hid ((none, i) = R)) ∨
      ∃ (f : Nat) (acc : List Int) (a : Option Addr) (c : Nat), gn = f + 1 ∧ s7 = .bool true ∧ s6 = .slice a acc.length c ∧ acc.length ≤ i ∧ i ≤ l.length ∧ l.length ≤ f + i ∧ Hid (qgo l f i acc = R) ∧ Hid (∀ n ∈ acc, SignP n) ∧ Hid (QS l i X g cap w acc a c wr)))
    case atStart => exact ⟨p + 1, Lib.hid H0.out.1, Lib.hid H0.out.2.1, .inr ⟨l.length - p, [], none, 0, rfl, rfl, rfl, by simp, by omega, by omega, HR2, Lib.hid (by simp), H0⟩⟩
    case round =>
      obtain ⟨i, hS, hK, ⟨h0, rfl, hRR⟩ | ⟨f, acc, a, c, hgk, rfl, rfl, hai, hil, hfi, hQ, hA, hW⟩⟩ := hrel
      · obtain ⟨d0, d1, f1⟩ := hS.out.cells
        clear d0 H0 HR2
        have HP := Lib.hid (hS.out.put p (by omega))
        have HK := Lib.hid (hK.out.trans (SK.set (X := X) wr 1 (.int .i64 (p : Int))))
        go_wp2_with fail
        go_ret3
        rw [← hRR.out]
        exact ⟨rfl, HP.out, HK.out⟩
      · clear hS hK H0 HR2
        by_cases hlt : i < l.length
        · obtain ⟨f', rfl⟩ : ∃ f', f = f' + 1 := ⟨f - 1, by omega⟩
          have HPK := Lib.hid (peek_yes l i X g cap _ hW.out.1 hlt (by omega))
          have hsn := HL.out _ (List.getElem_mem hlt)
          have hq2 := hQ.out
          unfold qgo at hq2
          rw [dif_pos hlt] at hq2
          have HQ := Lib.hid hq2
          have HSN := Lib.hid hsn
          have hn0 : 0 ≤ l[i] ∧ l[i] ≤ 1114111 := by unfold SignP at hsn; omega
          clear hq2 hQ hsn
          obtain ⟨m, hm⟩ : ∃ m, m = l[i] := ⟨_, rfl⟩
          rw [← hm] at HPK HQ HSN hn0
          clear hm
          obtain ⟨m0, m1⟩ := hn0
          go_wp2_with fail
          refine HPK.out.mono ?_
          rintro e w1' ⟨rfl, hb1⟩
          have H1 := Lib.hid (hW.out.keep hb1)
          clear hb1 HPK hW
          obtain ⟨d0, d1, f1⟩ := H1.out.1.cells
          clear d0
          have HP := Lib.hid (H1.out.put (i + 1) (by omega))
          by_cases h34 : m = 34
          · subst h34
            have hq3 := HQ.out
            rw [if_pos rfl] at hq3
            have HQ3 := Lib.hid hq3
            have e1 : ((i : Int) + 1) = ((i + 1 : Nat) : Int) := by omega
            have hcv : ∀ n, (convert 79 9 (.slice a acc.length c)).run Tryd.prog ((w1'.setCell ⟨X, 1, none⟩ (.int .i64 ((i : Int) + 1))).drewN n) = .ok (.string (tBytes acc)) ((w1'.setCell ⟨X, 1, none⟩ (.int .i64 ((i : Int) + 1))).drewN n) := by
              intro n
              rw [e1]
              have h2 : QS l (i + 1) X g cap w acc a c ((w1'.setCell ⟨X, 1, none⟩ (.int .i64 ((i + 1 : Nat) : Int))).drewN n) := HP.out.drewN n
              exact rune_back _ w.heap.size a c acc hA.out h2.2.2.1
            clear e1 hq3 HQ hA
            go_wp2_with fail
            go_quiet (fail)
            go_wp2_with fail
            go_ret3
            rw [← HQ3.out]
            exact ⟨rfl, (HP.out.drewN _).1, (HP.out.drewN _).2.1⟩
          · rw [if_neg h34] at HQ
            have t34 : (m == (34 : Int)) = false := beq_eq_false_iff_ne.mpr h34
            by_cases h92 : m = 92
            · subst h92
              have hq3 := HQ.out
              rw [if_pos rfl] at hq3
              obtain ⟨⟨ox, j⟩, hes⟩ : ∃ r, r = escV l (i + 1) := ⟨_, rfl⟩
              rw [← hes] at hq3
              have HQ3 := Lib.hid hq3
              have HES := Lib.hid hes
              clear hq3 HQ h34 t34 hes
              go_wp2_with fail
              have e1 : ((i : Int) + 1) = ((i + 1 : Nat) : Int) := by omega
              rw [e1]
              clear e1
              have HEE : Hid (Esc (w1'.setCell ⟨X, 1, none⟩ (.int .i64 ((i + 1 : Nat) : Int)))) := Lib.hid (HE.out.sk HP.out.2.1 hX0)
              have hea := escaped_any l (i + 1) X g cap _ HP.out.1 HEE.out hX0 HL.out (by omega)
              rw [← HES.out] at hea
              refine hea.mono ?_
              cases ox with
              | none =>
                rintro e w2 ⟨he2, hs2, hk2⟩
                have he3 : e = .returned (.tuple #[.int .i32 0, .bool false]) := he2
                subst he3
                have H2 := Lib.hid (HP.out.sk hs2 hk2)
                clear hs2 hk2 hea he2 HEE HES
                have hB := H2.out.2.2.2.1
                have hown := H2.out.2.2.1
                go_wp2_with (at_builtin; refine wpList_append_own _ rfl (.tmp 60) (.tmp 62) 79 rfl w.heap.size 21 i0 (.int .i32 0) 1 4 Tryd.underlying79 hi hz0 hz1 hz2 rfl (by decide) _ _ _ rfl (hown.alloc _) ⟨w2.heap.size, 0, none⟩ 1 1 [.int .i32 0] rfl rfl (cell_one_new _ _ _) (by simp [Value.oneCell']) (by unfold maxLen; omega) (by omega) (by simp; omega) ?_; intro v' w4 oa ga _; obtain ⟨a', c', rfl⟩ := own_form oa; have hb4 : Below w.heap.size w2 w4 := ((Below.refl w.heap.size w2).alloc (by omega) _).grown ga (by simp; omega) (fun g hg => (hown.lt g hg).1); clear ga)
                have H4 := Lib.hid (H2.out.grow 0 oa hb4)
                clear oa hb4 hown
                go_wp2_with fail
                go_roundg 0
                case measure => omega
                case rel => exact ⟨j, Lib.hid H4.out.1, Lib.hid H4.out.2.1, .inl ⟨rfl, rfl, HQ3⟩⟩
              | some x =>
                rintro e w2 ⟨he2, hs2, hk2⟩
                have he3 : e = .returned (.tuple #[.int .i32 x, .bool true]) := he2
                subst he3
                have H2 := Lib.hid (HP.out.sk hs2 hk2)
                obtain ⟨j1, j2, j3⟩ := escV_some HES.out.symm
                have HJ := Lib.hid j3
                clear hs2 hk2 hea he2 HEE HES j3
                have hB := H2.out.2.2.2.1
                have hown := H2.out.2.2.1
                go_wp2_with (at_builtin; refine wpList_append_own _ rfl (.tmp 60) (.tmp 62) 79 rfl w.heap.size 21 i0 (.int .i32 0) 1 4 Tryd.underlying79 hi hz0 hz1 hz2 rfl (by decide) _ _ _ rfl (hown.alloc _) ⟨w2.heap.size, 0, none⟩ 1 1 [.int .i32 x] rfl rfl (cell_one_new _ _ _) (by simp [Value.oneCell']) (by unfold maxLen; omega) (by omega) (by simp; omega) ?_; intro v' w4 oa ga _; obtain ⟨a', c', rfl⟩ := own_form oa; have hb4 : Below w.heap.size w2 w4 := ((Below.refl w.heap.size w2).alloc (by omega) _).grown ga (by simp; omega) (fun g hg => (hown.lt g hg).1); clear ga)
                have H4 := Lib.hid (H2.out.grow x oa hb4)
                clear oa hb4 hown
                have HA2 : Hid (∀ n ∈ acc ++ [x], SignP n) := Lib.hid (fun n hn => by
                  rcases List.mem_append.1 hn with h | h
                  · exact hA.out n h
                  · obtain rfl := List.mem_singleton.1 h; exact HJ.out)
                go_wp2_with fail
                go_roundg (f' + 1)
                case measure => omega
                case rel => exact ⟨j, Lib.hid H4.out.1, Lib.hid H4.out.2.1, .inr ⟨f', acc ++ [x], a', c', rfl, rfl, by rw [List.length_append]; rfl, by rw [List.length_append]; simp; omega, j2, by omega, HQ3, HA2, H4⟩⟩
            · rw [if_neg h92] at HQ
              have t92 : (m == (92 : Int)) = false := beq_eq_false_iff_ne.mpr h92
              by_cases hnl : m = 10 ∨ m = 13
              · have HQ3 : Hid ((none, i) = R) := Lib.hid (by have := HQ.out; rw [if_pos hnl] at this; exact this)
                clear HQ HP h34 h92
                obtain ⟨w2, hw2⟩ : ∃ w2, w2 = w1' := ⟨_, rfl⟩
                rw [← hw2] at H1 d1 f1 ⊢
                clear hw2
                have H2 := H1
                rcases hnl with rfl | rfl
                all_goals
                  have hB := H2.out.2.2.2.1
                  have hown := H2.out.2.2.1
                  go_wp2_with (at_builtin; refine wpList_append_own _ rfl (.tmp 60) (.tmp 62) 79 rfl w.heap.size 21 i0 (.int .i32 0) 1 4 Tryd.underlying79 hi hz0 hz1 hz2 rfl (by decide) _ _ _ rfl (hown.alloc _) ⟨w2.heap.size, 0, none⟩ 1 1 [.int .i32 _] rfl rfl (cell_one_new _ _ _) (by simp [Value.oneCell']) (by unfold maxLen; omega) (by omega) (by simp; omega) ?_; intro v' w4 oa ga _; obtain ⟨a', c', rfl⟩ := own_form oa; have hb4 : Below w.heap.size w2 w4 := ((Below.refl w.heap.size w2).alloc (by omega) _).grown ga (by simp; omega) (fun g hg => (hown.lt g hg).1); clear ga)
                  have H4 := Lib.hid (H2.out.grow _ oa hb4)
                  clear oa hb4 hown
                  go_wp2_with fail
                  go_roundg 0
                  case measure => omega
                  case rel => exact ⟨i, Lib.hid H4.out.1, Lib.hid H4.out.2.1, .inl ⟨rfl, rfl, HQ3⟩⟩
              · rw [if_neg hnl] at HQ
                have t10 : (m == (10 : Int)) = false := beq_eq_false_iff_ne.mpr (by omega)
                have t13 : (m == (13 : Int)) = false := beq_eq_false_iff_ne.mpr (by omega)
                have t1 : (m == (-1 : Int)) = false := beq_eq_false_iff_ne.mpr (by omega)
                clear h34 h92 hnl
                go_upto_region 18 with fail
                have e1 : ((i : Int) + 1) = ((i + 1 : Nat) : Int) := by omega
                rw [e1]
                clear e1
                obtain ⟨w2, hw2⟩ : ∃ w2, w2 = w1'.setCell ⟨X, 1, none⟩ (.int .i64 ((i + 1 : Nat) : Int)) := ⟨_, rfl⟩
                rw [← hw2] at HP ⊢
                clear hw2
                have H2 := HP
                have hB := H2.out.2.2.2.1
                have hown := H2.out.2.2.1
                go_wp2_with (at_builtin; refine wpList_append_own _ rfl (.tmp 60) (.tmp 62) 79 rfl w.heap.size 21 i0 (.int .i32 0) 1 4 Tryd.underlying79 hi hz0 hz1 hz2 rfl (by decide) _ _ _ rfl (hown.alloc _) ⟨w2.heap.size, 0, none⟩ 1 1 [.int .i32 m] rfl rfl (cell_one_new _ _ _) (by simp [Value.oneCell']) (by unfold maxLen; omega) (by omega) (by simp; omega) ?_; intro v' w4 oa ga _; obtain ⟨a', c', rfl⟩ := own_form oa; have hb4 : Below w.heap.size w2 w4 := ((Below.refl w.heap.size w2).alloc (by omega) _).grown ga (by simp; omega) (fun g hg => (hown.lt g hg).1); clear ga)
                have H4 := Lib.hid (H2.out.grow m oa hb4)
                clear oa hb4 hown
                have HA2 : Hid (∀ n ∈ acc ++ [m], SignP n) := Lib.hid (fun n hn => by
                  rcases List.mem_append.1 hn with h | h
                  · exact hA.out n h
                  · obtain rfl := List.mem_singleton.1 h; exact HSN.out)
                go_wp2_with fail
                go_roundg (f' + 1)
                case measure => omega
                case rel => exact ⟨i + 1, Lib.hid H4.out.1, Lib.hid H4.out.2.1, .inr ⟨f', acc ++ [m], a', c', rfl, rfl, by rw [List.length_append]; rfl, by rw [List.length_append]; simp; omega, by omega, by omega, HQ, HA2, H4⟩⟩
        · have HQ3 : Hid ((none, i) = R) := Lib.hid (by rw [← hQ.out, qgo_end l f i acc hlt])
          have HPK := Lib.hid (peek_no l i X g cap _ hW.out.1 (by omega))
          clear hQ
          go_wp2_with fail
          refine HPK.out.mono ?_
          rintro e w2 ⟨rfl, hb1⟩
          have H2 := Lib.hid (hW.out.keep hb1)
          clear hb1 HPK hW
          have hB := H2.out.2.2.2.1
          have hown := H2.out.2.2.1
          go_wp2_with (at_builtin; refine wpList_append_own _ rfl (.tmp 60) (.tmp 62) 79 rfl w.heap.size 21 i0 (.int .i32 0) 1 4 Tryd.underlying79 hi hz0 hz1 hz2 rfl (by decide) _ _ _ rfl (hown.alloc _) ⟨w2.heap.size, 0, none⟩ 1 1 [.int .i32 (-1)] rfl rfl (cell_one_new _ _ _) (by simp [Value.oneCell']) (by unfold maxLen; omega) (by omega) (by simp; omega) ?_; intro v' w4 oa ga _; obtain ⟨a', c', rfl⟩ := own_form oa; have hb4 : Below w.heap.size w2 w4 := ((Below.refl w.heap.size w2).alloc (by omega) _).grown ga (by simp; omega) (fun g hg => (hown.lt g hg).1); clear ga)
          have H4 := Lib.hid (H2.out.grow (-1) oa hb4)
          clear oa hb4 hown
          go_wp2_with fail
          go_roundg 0
          case measure => omega
          case rel => exact ⟨i, Lib.hid H4.out.1, Lib.hid H4.out.2.1, .inl ⟨rfl, rfl, HQ3⟩⟩
  · have HI2 : Hid (Calls Tryd.prog 66 #[.pointer (some ⟨X, 0, none⟩), .string ⟨#[34]⟩] w (Moved l p X g cap (.bool false) w)) := Lib.hid (by
      have := HIS.out
      rw [show ([34] : List Int).length = 1 from rfl, if_neg hq, decide_eq_false hq] at this
      exact this)
    have HR2 : Hid ((none, p) = R) := Lib.hid (by rw [HR.out]; unfold quotedV; rw [if_neg hq])
    clear hq HIS HR
    go_enter Tryd.func68, Tryd.ntmps68
    go_wp2_with fail
    refine HI2.out.mono ?_
    rintro e w1 ⟨rfl, hs1, hk1⟩
    have hS := Lib.hid hs1
    have hK := Lib.hid hk1
    clear hs1 hk1 HI2 c1 f1 HSK
    go_wp2_with fail
    go_loopg [7] 0 (fun gn s7 wr => s7 = .bool false ∧ Hid (ScW l p X g cap wr) ∧ Hid (SK X w wr))
    case atStart => exact ⟨rfl, hS, hK⟩
    case round =>
      obtain ⟨rfl, hS2, hK2⟩ := hrel
      obtain ⟨d0, d1, f1⟩ := hS2.out.cells
      clear d0
      have HP := Lib.hid (hS2.out.put p (by omega))
      have HK := Lib.hid (hK2.out.trans (SK.set (X := X) wr 1 (.int .i64 (p : Int))))
      go_wp2_with fail
      go_ret3
      rw [← HR2.out]
      exact ⟨rfl, HP.out, HK.out⟩
end Go.Proofs.YtbchkhjkajagfaaDoor
