/- The document's dictionary over this seat's program: rows of its terms; Find. -/
import Derived.Test.YtghimladdioajaaDcTerm
import Derived.Test.YtghimladdioajaaRowOf
import Derived.Deep.RegionHeld3
namespace Go.Proofs.Ytghimladdioajaa
open Go Go.RowKit
set_option linter.unusedVariables false
set_option linter.unusedSimpArgs false
def refC (X : Tm) : List Value := [.int .i64 (kindV X), .string (text0 X), .string (text1 X), .string (text2 X)]
abbrev DocRow (w : World) (base : Nat) (V : Value) (ts : List Tm) : Prop := RowOf 31 4 refC w base V ts
theorem refC_len (X : Tm) : (refC X).length = 4 := rfl
theorem eltR : Elt Try.prog 22 31 4 56 refC where
  ht := Try.underlying22
  hi := elt_info (z := .agg #[.int .i64 0, .string ⟨#[]⟩, .string ⟨#[]⟩, .string ⟨#[]⟩]) (by kernel_rfl) rfl
  len := refC_len
  one := by
    intro X u hu
    simp only [refC, List.mem_cons, List.not_mem_nil, or_false] at hu
    rcases hu with rfl | rfl | rfl | rfl <;> rfl
  pos := by decide
  small := by decide
theorem doc_at {w : World} {base : Nat} {V : Value} {ts : List Tm} (h : DocRow w base V ts) (j : Nat) (hj : j < ts.length) :
    ∃ g cap, V = .slice (some ⟨g, 0, none⟩) ts.length cap ∧ base ≤ g ∧ g < w.heap.size ∧ w.cell? ⟨g, j * 4, none⟩ = some (.int .i64 (kindV (ts[j]'hj))) ∧ w.cell? ⟨g, j * 4 + 1, none⟩ = some (.string (text0 (ts[j]'hj))) ∧
      w.cell? ⟨g, j * 4 + 2, none⟩ = some (.string (text1 (ts[j]'hj))) ∧ w.cell? ⟨g, j * 4 + 3, none⟩ = some (.string (text2 (ts[j]'hj))) := by
  obtain ⟨g, cap, hv, hb, hg, hc⟩ := h.at_ refC_len j hj
  exact ⟨g, cap, hv, hb, hg, hc 0 _ (by omega) rfl, hc 1 _ (by omega) rfl, hc 2 _ (by omega) rfl, hc 3 _ (by omega) rfl⟩
theorem eq_struct4 (T : TypeId) (xs ys : Array Value) (m : List (Bool × TypeId × Nat)) (w : World) (ht : Try.prog.underlying T = some (.struct (Try.prog.fieldsOf T))) (hp : Try.prog.stoodInHeld T = false)
    (hm : ((Try.prog.fieldsOf T).toList.map fun f => (f.name != "_", f.type, f.offset)) = m) :
    (Op.equalIn 10000 T (.agg xs) (.agg ys)).run Try.prog w = (eqM 9999 xs ys m).run Try.prog w := by
  rw [run_equalIn_agg w 9999 T xs ys ht hp, eqF_eqM, hm]
/-- the same document's term -/
def eqD (x y : Tm) : Bool := decide (kindV x = kindV y) && (sameS (text0 x) (text0 y) && (sameS (text1 x) (text1 y) && sameS (text2 x) (text2 y)))
theorem eq_refT (X Y : Tm) (w : World) : (Go.binOp BinOp.eql 31 (refT X) (refT Y)).run Try.prog w = .ok (.bool (eqD X Y)) w := by
  unfold refT eqD sameS
  generalize kindV X = k
  generalize kindV Y = k'
  generalize text0 X = s
  generalize text0 Y = s'
  generalize text1 X = t
  generalize text1 Y = t'
  generalize text2 X = l
  generalize text2 Y = l'
  have p : ∀ w, (Op.equalIn 10000 31 (.agg #[.int .i64 k, .string s, .string t, .string l]) (.agg #[.int .i64 k', .string s', .string t', .string l'])).run Try.prog w = .ok (decide (k = k') && (s.toList == s'.toList && (t.toList == t'.toList && l.toList == l'.toList))) w := fun w => by
    rw [eq_struct4 _ _ _ [(true, 3, 0), (true, 9, 1), (true, 9, 2), (true, 9, 3)] w (by kernel_rfl) (by kernel_rfl) (by kernel_rfl)]
    have p0 : ∀ w, (part 3 #[.int .i64 k, .string s, .string t, .string l] 0).run Try.prog w = .ok (.int .i64 k) w := fun w => by kernel_rfl
    have r0 : ∀ w, (part 3 #[.int .i64 k', .string s', .string t', .string l'] 0).run Try.prog w = .ok (.int .i64 k') w := fun w => by kernel_rfl
    have q0 : ∀ w, (Op.equalIn 9999 3 (.int .i64 k) (.int .i64 k')).run Try.prog w = .ok (k == k') w := fun w => run_equalIn_int w 9998 _ .i64 .i64 k k' Try.underlying3
    have p1 : ∀ w, (part 9 #[.int .i64 k, .string s, .string t, .string l] 1).run Try.prog w = .ok (.string s) w := fun w => by kernel_rfl
    have r1 : ∀ w, (part 9 #[.int .i64 k', .string s', .string t', .string l'] 1).run Try.prog w = .ok (.string s') w := fun w => by kernel_rfl
    have q1 : ∀ w, (Op.equalIn 9999 9 (.string s) (.string s')).run Try.prog w = .ok (s.toList == s'.toList) w := fun w => run_equalIn_string w 9998 _ s s' Try.underlying9
    have p2 : ∀ w, (part 9 #[.int .i64 k, .string s, .string t, .string l] 2).run Try.prog w = .ok (.string t) w := fun w => by kernel_rfl
    have r2 : ∀ w, (part 9 #[.int .i64 k', .string s', .string t', .string l'] 2).run Try.prog w = .ok (.string t') w := fun w => by kernel_rfl
    have q2 : ∀ w, (Op.equalIn 9999 9 (.string t) (.string t')).run Try.prog w = .ok (t.toList == t'.toList) w := fun w => run_equalIn_string w 9998 _ t t' Try.underlying9
    have p3 : ∀ w, (part 9 #[.int .i64 k, .string s, .string t, .string l] 3).run Try.prog w = .ok (.string l) w := fun w => by kernel_rfl
    have r3 : ∀ w, (part 9 #[.int .i64 k', .string s', .string t', .string l'] 3).run Try.prog w = .ok (.string l') w := fun w => by kernel_rfl
    have q3 : ∀ w, (Op.equalIn 9999 9 (.string l) (.string l')).run Try.prog w = .ok (l.toList == l'.toList) w := fun w => run_equalIn_string w 9998 _ l l' Try.underlying9
    have e0 : (k == k') = decide (k = k') := by rw [Bool.eq_iff_iff]; simp
    simp only [eqM, if_true, Sem.run_bind, p0, r0, q0, p1, r1, q1, p2, r2, q2, p3, r3, q3, Result.andThen_ok, Sem.run_ite, Sem.run_pure, e0]
    cases decide (k = k') <;> cases s.toList == s'.toList <;> cases t.toList == t'.toList <;> cases l.toList == l'.toList <;> simp [Sem.run_pure]
  simp only [binOp]
  simp [Op.equal, Op.maxDepth, p w]
theorem eqD_eqT {x y : Tm} (hx : KeyT x) (hy : KeyT y) : eqD x y = eqT x y := by
  have e : sameS (⟨#[]⟩ : ByteArray) ⟨#[]⟩ = true := by simp [sameS]
  cases x <;> cases y <;> first | exact hx.elim | exact hy.elim | simp [eqT, eqD, kindV, text0, text1, text2, e]
theorem sameS_comm (x y : ByteArray) : sameS x y = sameS y x := by
  unfold sameS
  exact BEq.comm
theorem eqT_comm (x y : Tm) : eqT x y = eqT y x := by
  cases x <;> cases y <;> first | rfl | simp [eqT, sameS_comm]
theorem kept9 {w1 w2 : World} {a0 a1 a2 a3 a4 a5 a6 a7 a8 : Addr} {v0 v1 v2 v3 v4 v5 v6 v7 v8 : Value} (h : w1.cell? a0 = some v0 ∧ w1.cell? a1 = some v1 ∧ w1.cell? a2 = some v2 ∧ w1.cell? a3 = some v3 ∧ w1.cell? a4 = some v4 ∧ w1.cell? a5 = some v5 ∧ w1.cell? a6 = some v6 ∧ w1.cell? a7 = some v7 ∧ w1.cell? a8 = some v8) (hb : Below w1.heap.size w1 w2) :
    w2.cell? a0 = some v0 ∧ w2.cell? a1 = some v1 ∧ w2.cell? a2 = some v2 ∧ w2.cell? a3 = some v3 ∧ w2.cell? a4 = some v4 ∧ w2.cell? a5 = some v5 ∧ w2.cell? a6 = some v6 ∧ w2.cell? a7 = some v7 ∧ w2.cell? a8 = some v8 := by
  obtain ⟨h0, h1, h2, h3, h4, h5, h6, h7, h8⟩ := h
  exact ⟨cell_below h0 hb, cell_below h1 hb, cell_below h2 hb, cell_below h3 hb, cell_below h4 hb, cell_below h5 hb, cell_below h6 hb, cell_below h7 hb, cell_below h8 hb⟩
/-- the place from a number on, as the document seeks it -/
def scanAt (G : Tm → Bool) (x : Tm) : List Tm → Int → Int
  | [], _ => -1
  | y :: l, i => if eqT y x && G x then i else scanAt G x l (i + 1)
theorem scanAt_bad {G : Tm → Bool} {x : Tm} (h : G x = false) : ∀ (l : List Tm) (i : Int), scanAt G x l i = -1
  | [], _ => rfl
  | y :: l, i => by unfold scanAt; rw [h, Bool.and_false]; simpa using scanAt_bad h l (i + 1)
theorem scanAt_good {G : Tm → Bool} {x : Tm} (h : G x = true) : ∀ (l : List Tm) (i : Int), scanAt G x l i = match idxT x l with | some j => i + j | none => -1
  | [], _ => rfl
  | y :: l, i => by
    unfold scanAt
    have ih := scanAt_good h l (i + 1)
    unfold idxT at ih ⊢
    rw [h, Bool.and_true, List.findIdx?_cons, eqT_comm y x]
    cases eqT x y with
    | true => simp
    | false =>
      simp only [Bool.false_eq_true, if_false]
      rw [ih]
      cases List.findIdx? (eqT x) l with
      | none => rfl
      | some j =>
        show i + 1 + (j : Int) = i + ((j + 1 : Nat) : Int)
        push_cast
        omega
/-- what the document's Find tells -/
def rfindN (G : Tm → Bool) (x : Tm) (ts : List Tm) : Int := scanAt G x ts 0
set_option maxRecDepth 100000 in
set_option maxHeartbeats 1600000 in
theorem rfind_any {G : Tm → Bool} (hG : GoodFn G) (room : Int) (base : Nat) (V : Value) (ts : List Tm) (x : Tm) (w : World) (h : DocRow w base V ts) (hz : Small x) (hx : KeyT x) (hk : ∀ k ∈ ts, KeyT k) (hl : ts.length ≤ 100000) :
    Calls Try.prog 25 #[.agg #[.int .i64 room, V], refT x] w fun e w' => e = .returned (.int .i64 (rfindN G x ts)) ∧ Below w.heap.size w w' := by
  obtain ⟨a, cap, rfl⟩ := h.form
  have HR := Lib.hid h
  have HG := Lib.hid (hG x hz).2.1
  have HE := Lib.hid (fun (j : Nat) (hj : j < ts.length) w => (eqD_eqT (hk _ (List.getElem_mem hj)) hx) ▸ eq_refT (ts[j]'hj) x w)
  obtain ⟨R, hR⟩ : ∃ R, R = rfindN G x ts := ⟨_, rfl⟩
  rw [← hR]
  have HRR := Lib.hid hR
  unfold rfindN at HRR
  obtain ⟨gx, hgx⟩ : ∃ gx, gx = G x := ⟨_, rfl⟩
  rw [← hgx] at HG
  have HX := Lib.hid hgx
  have hl0 : ts.length ≤ 9223372036854775807 := by omega
  clear hR h hgx hx hk
  unfold refT at HE ⊢
  obtain ⟨B, hB⟩ : ∃ B, B = w.heap.size := ⟨_, rfl⟩
  go_enter Try.func25, Try.ntmps25
  go_wp2
  go_loopw [9] (fun i wr => ∃ k : Nat, k ≤ ts.length ∧ i = .int .i64 k ∧ Hid (R = scanAt G x (ts.drop k) k) ∧ Below (w.heap.size + 2) ((w.alloc (.cells #[.int .i64 room, .slice a ts.length cap] 29)).alloc (.cells #[.int .i64 (kindV x), .string (text0 x), .string (text1 x), .string (text2 x)] 31)) wr) (fun i _ => ts.length - (intOf i).toNat)
  case atStart => exact ⟨0, by omega, rfl, Lib.hid (by simpa using HRR.out), Below.refl _ _⟩
  case round =>
    obtain ⟨k, hk, rfl, hs, hb⟩ := hrel
    have hrow := (HR.out.below (((Below.refl _ w).alloc (Nat.le_refl _) (.cells #[.int .i64 room, .slice a ts.length cap] 29)).alloc (by simp) (.cells #[.int .i64 (kindV x), .string (text0 x), .string (text1 x), .string (text2 x)] 31))).below (hb.mono (by simp))
    have c0 : wr.cell? ⟨w.heap.size, 1, none⟩ = some (.slice a ts.length cap) := (hb.cell (p := ⟨w.heap.size, 1, none⟩) (by simp)).trans (by simp [go_sem])
    have c1 : wr.cell? ⟨w.heap.size + 1, 0, none⟩ = some (.int .i64 (kindV x)) := (hb.cell (p := ⟨w.heap.size + 1, 0, none⟩) (by simp)).trans (by simp [go_sem])
    have c2 : wr.cell? ⟨w.heap.size + 1, 1, none⟩ = some (.string (text0 x)) := (hb.cell (p := ⟨w.heap.size + 1, 1, none⟩) (by simp)).trans (by simp [go_sem])
    have c3 : wr.cell? ⟨w.heap.size + 1, 2, none⟩ = some (.string (text1 x)) := (hb.cell (p := ⟨w.heap.size + 1, 2, none⟩) (by simp)).trans (by simp [go_sem])
    have c4 : wr.cell? ⟨w.heap.size + 1, 3, none⟩ = some (.string (text2 x)) := (hb.cell (p := ⟨w.heap.size + 1, 3, none⟩) (by simp)).trans (by simp [go_sem])
    have HB := Lib.hid hb
    clear hb
    by_cases hlt : k < ts.length
    · obtain ⟨g, cap', hv, _, hg, d0, d1, d2, d3⟩ := doc_at hrow k hlt
      obtain rfl : a = some ⟨g, 0, none⟩ := by injection hv
      have QE := HE.out k hlt
      have hs2 : R = if eqT (ts[k]'hlt) x && G x then (k : Int) else scanAt G x (ts.drop (k + 1)) (k + 1) := by
        rw [hs.out, List.drop_eq_getElem_cons hlt]
        rfl
      rw [← HX.out] at hs2
      have HS := Lib.hid hs2
      have b1 : (0 : Int) ≤ (k : Int) := by omega
      have b2 : (k : Int) < (ts.length : Int) := by omega
      clear hs2 hs hv hrow
      generalize kindV (ts[k]'hlt) = k0 at *
      generalize text0 (ts[k]'hlt) = s0 at *
      generalize text1 (ts[k]'hlt) = s1 at *
      generalize text2 (ts[k]'hlt) = s2 at *
      cases hq : eqT (ts[k]'hlt) x with
      | false =>
        rw [hq] at QE HS
        have QG : ∀ w, (Go.eqGuard BinOp.eql 31 (.tmp 16) (.tmp 17) (.agg #[.int .i64 k0, .string s0, .string s1, .string s2]) (.agg #[.int .i64 (kindV x), .string (text0 x), .string (text1 x), .string (text2 x)])).run Try.prog w = .ok () w := fun w => by kernel_rfl
        clear hq
        go_wp2_with fail
        go_quiet (fail)
        go_wp2_with fail
        exact ⟨⟨k + 1, by omega, by push_cast; rfl, Lib.hid (by rw [HS.out]; simp), below_drewN HB.out _⟩, by simp only [intOf]; omega⟩
      | true =>
        rw [hq] at QE HS
        have QG : ∀ w, (Go.eqGuard BinOp.eql 31 (.tmp 16) (.tmp 17) (.agg #[.int .i64 k0, .string s0, .string s1, .string s2]) (.agg #[.int .i64 (kindV x), .string (text0 x), .string (text1 x), .string (text2 x)])).run Try.prog w = .ok () w := fun w => by kernel_rfl
        clear hq
        have HG1 := Lib.hid (fun w1 => (HG.out w1))
        go_wp2_with fail
        refine wp_region_held_drew (S := (fun w' => w'.cell? ⟨w.heap.size, 1, none⟩ = some (.slice (some ⟨g, 0, none⟩) ts.length cap) ∧ w'.cell? ⟨w.heap.size + 1, 0, none⟩ = some (.int .i64 (kindV x)) ∧ w'.cell? ⟨w.heap.size + 1, 1, none⟩ = some (.string (text0 x)) ∧ w'.cell? ⟨w.heap.size + 1, 2, none⟩ = some (.string (text1 x)) ∧ w'.cell? ⟨w.heap.size + 1, 3, none⟩ = some (.string (text2 x)) ∧ w'.cell? ⟨g, k * 4, none⟩ = some (.int .i64 k0) ∧ w'.cell? ⟨g, k * 4 + 1, none⟩ = some (.string s0) ∧ w'.cell? ⟨g, k * 4 + 2, none⟩ = some (.string s1) ∧ w'.cell? ⟨g, k * 4 + 3, none⟩ = some (.string s2))) (by kernel_rfl) ?hSfnd0 (fun hHeld => ?_)
        case hSfnd0 => exact ⟨c0, c1, c2, c3, c4, d0, d1, d2, d3⟩
        refine wpAnyH_take (i := 0) (oi := ⟨some 12, _, _, _, _, _⟩) (v := ?vfnd0) rfl (by kernel_rfl) (by kernel_rfl) (by kernel_rfl) (fun _ _ _ h => h) (Or.inl ⟨by kernel_rfl, ?yfnd0⟩) (by assumption) ?rfnd0
        case yfnd0 =>
          intro w hSw
          try dsimp only at hSw
          first | (go_simp; done) | (go_simp; with_reducible rfl)
        try simp only [Act.put, List.setIfInBounds_toArray, List.set_cons_zero, List.set_cons_succ]
        refine wpAnyH_take (i := 1) (oi := ⟨some 13, _, _, _, _, _⟩) (v := ?vfnd1) rfl (by kernel_rfl) (by kernel_rfl) (by kernel_rfl) (fun _ _ _ h => h) (Or.inl ⟨by kernel_rfl, ?yfnd1⟩) (by assumption) ?rfnd1
        case yfnd1 =>
          intro w hSw
          try dsimp only at hSw
          first | (go_simp; done) | (go_simp; with_reducible rfl)
        try simp only [Act.put, List.setIfInBounds_toArray, List.set_cons_zero, List.set_cons_succ]
        refine wpAnyH_take (i := 2) (oi := ⟨some 14, _, _, _, _, _⟩) (v := ?vfnd2) rfl (by kernel_rfl) (by kernel_rfl) (by kernel_rfl) (fun _ _ _ h => h) (Or.inl ⟨by kernel_rfl, ?yfnd2⟩) (by assumption) ?rfnd2
        case yfnd2 =>
          intro w hSw
          try dsimp only at hSw
          first | (go_simp; done) | (go_simp; with_reducible rfl)
        try simp only [Act.put, List.setIfInBounds_toArray, List.set_cons_zero, List.set_cons_succ]
        refine wpAnyH_take (i := 3) (oi := ⟨some 15, _, _, _, _, _⟩) (v := ?vfnd3) rfl (by kernel_rfl) (by kernel_rfl) (by kernel_rfl) (fun _ _ _ h => h) (Or.inl ⟨by kernel_rfl, ?yfnd3⟩) (by assumption) ?rfnd3
        case yfnd3 =>
          intro w hSw
          try dsimp only at hSw
          first | (go_simp; done) | (go_simp; with_reducible rfl)
        try simp only [Act.put, List.setIfInBounds_toArray, List.set_cons_zero, List.set_cons_succ]
        refine wpAnyH_take (i := 4) (oi := ⟨some 16, _, _, _, _, _⟩) (v := ?vfnd4) rfl (by kernel_rfl) (by kernel_rfl) (by kernel_rfl) (fun _ _ _ h => h) (Or.inl ⟨by kernel_rfl, ?yfnd4⟩) (by assumption) ?rfnd4
        case yfnd4 =>
          intro w hSw
          try dsimp only at hSw
          first | (go_simp; done) | (go_simp; with_reducible rfl)
        try simp only [Act.put, List.setIfInBounds_toArray, List.set_cons_zero, List.set_cons_succ]
        refine wpAnyH_take (i := 5) (oi := ⟨some 17, _, _, _, _, _⟩) (v := ?vfnd5) rfl (by kernel_rfl) (by kernel_rfl) (by kernel_rfl) (fun _ _ _ h => h) (Or.inl ⟨by kernel_rfl, ?yfnd5⟩) (by assumption) ?rfnd5
        case yfnd5 =>
          intro w hSw
          try dsimp only at hSw
          first | (go_simp; done) | (go_simp; with_reducible rfl)
        try simp only [Act.put, List.setIfInBounds_toArray, List.set_cons_zero, List.set_cons_succ]
        refine wpAnyH_take (i := 6) (oi := ⟨some 18, _, _, _, _, _⟩) (v := ?vfnd6) rfl (by kernel_rfl) (by kernel_rfl) (by kernel_rfl) (fun _ _ _ h => h) (Or.inl ⟨by kernel_rfl, ?yfnd6⟩) (by assumption) ?rfnd6
        case yfnd6 =>
          intro w hSw
          try dsimp only at hSw
          first | (go_simp; done) | (go_simp; with_reducible rfl)
        try simp only [Act.put, List.setIfInBounds_toArray, List.set_cons_zero, List.set_cons_succ]
        refine wpAnyH_take (i := 7) (oi := ⟨some 19, _, _, _, _, _⟩) (v := ?vfnd7) rfl (by kernel_rfl) (by kernel_rfl) (by kernel_rfl) (fun _ _ _ h => h) (Or.inl ⟨by kernel_rfl, ?yfnd7⟩) (by assumption) ?rfnd7
        case yfnd7 =>
          intro w hSw
          try dsimp only at hSw
          first | (go_simp; done) | (go_simp; with_reducible rfl)
        try simp only [Act.put, List.setIfInBounds_toArray, List.set_cons_zero, List.set_cons_succ]
        refine wpAnyH_take (i := 8) (oi := ⟨some 20, _, _, _, _, _⟩) (v := ?vfnd8) rfl (by kernel_rfl) (by kernel_rfl) (by kernel_rfl) (fun _ _ _ h => h) (Or.inl ⟨by kernel_rfl, ?yfnd8⟩) (by assumption) ?rfnd8
        case yfnd8 =>
          intro w hSw
          try dsimp only at hSw
          first | (go_simp; done) | (go_simp; with_reducible rfl)
        try simp only [Act.put, List.setIfInBounds_toArray, List.set_cons_zero, List.set_cons_succ]
        refine wpAnyH_ready (rs := [9]) (by kernel_rfl) (by simp) ?_
        refine AllReadyH.cons (i := 9) (o := ⟨some 21, _, _, _, _, _⟩) rfl (fun K hK => ?_) AllReadyH.nil
        go_simp
        refine (HG.out _).mono ?_
        rintro e w1 ⟨rfl, hb1⟩
        go_wp2_with fail
        refine hK.out _ _ ?_ (fun hHeld => ?_)
        · exact kept9 (by assumption) hb1
        clear hK K
        try simp only [Act.put, List.setIfInBounds_toArray, List.set_cons_zero, List.set_cons_succ]
        refine wpAnyH_take (i := 10) (oi := ⟨some 22, _, _, _, _, _⟩) (v := ?vfnd10) rfl (by kernel_rfl) (by kernel_rfl) (by kernel_rfl) (fun _ _ _ h => h) (Or.inl ⟨by kernel_rfl, ?yfnd10⟩) (by assumption) ?rfnd10
        case yfnd10 =>
          intro w hSw
          try dsimp only at hSw
          first | (go_simp; done) | (go_simp; with_reducible rfl)
        try simp only [Act.put, List.setIfInBounds_toArray, List.set_cons_zero, List.set_cons_succ]
        refine wpAnyH_done (by kernel_rfl) ?_ _
        have hbb := HB.out.drew.trans (hb1.mono (show w.heap.size + 2 ≤ wr.drew.heap.size from by have := HB.out.size; simpa using this))
        cases gx with
        | true =>
          go_wp2_with fail
          go_ret
          exact ⟨by rw [HS.out]; rfl, (((Below.refl _ _).alloc (Nat.le_refl _) _).alloc (by simp) _).trans (hbb.mono (by omega))⟩
        | false =>
          go_wp2_with fail
          exact ⟨⟨k + 1, by omega, by push_cast; rfl, Lib.hid (by rw [HS.out]; simp), hbb⟩, by simp only [intOf]; omega⟩
    · have hs2 : R = -1 := by
        rw [hs.out, List.drop_eq_nil_of_le (by omega)]
        rfl
      have HS := Lib.hid hs2
      have t1 : decide (k < ts.length) = false := decide_eq_false hlt
      clear hs2 hs hrow
      go_wp2_with fail
      go_ret
      exact ⟨by rw [HS.out]; rfl, (((Below.refl _ _).alloc (Nat.le_refl _) _).alloc (by simp) _).trans (HB.out.mono (by omega))⟩
end Go.Proofs.Ytghimladdioajaa
