/- Contract of package dict's Order over this seat's program. -/
import Derived.Test.YtghimladdioajaaDcOrd
import Derived.Test.YtghimladdioajaaDcTwice
namespace Go.Proofs.Ytghimladdioajaa
open Go Go.RowKit
set_option linter.unusedVariables false
set_option linter.unusedSimpArgs false
set_option maxRecDepth 100000
def hasN (n : Int) (k : Nat) : Bool := decide (0 ≤ n) && decide (n < k)
/-- the order of two numbers -/
def orderN (ts : List Tm) (a b : Int) : Int :=
  if hasN a ts.length && hasN b ts.length then orderV (ts.getD a.toNat .none) (ts.getD b.toNat .none)
  else if hasN a ts.length then -1 else if hasN b ts.length then 1 else cmpI a b
theorem kept3o {w1 w2 : World} {a0 a1 a2 : Addr} {v0 v1 v2 : Value} (h : w1.cell? a0 = some v0 ∧ w1.cell? a1 = some v1 ∧ w1.cell? a2 = some v2) (hb : Below w1.heap.size w1 w2) :
    w2.cell? a0 = some v0 ∧ w2.cell? a1 = some v1 ∧ w2.cell? a2 = some v2 := ⟨cell_below h.1 hb, cell_below h.2.1 hb, cell_below h.2.2 hb⟩
set_option maxHeartbeats 1600000 in
theorem dorder_any {base p m : Nat} {ts : List Tm} {room : Int} {w : World} (a b : Int) (h : DcAt base p m ts room w) :
    Calls Try.prog 33 #[.pointer (some ⟨p, 0, none⟩), .int .i64 a, .int .i64 b] w fun e w' => e = .returned (.int .i64 (orderN ts a b)) ∧ Below w.heap.size w w' := by
  have H1 := Lib.hid (has_any a h)
  have H2 := Lib.hid (has_any b h)
  unfold orderN
  change Hid (Calls _ _ _ w fun e w' => e = .returned (.bool (hasN a ts.length)) ∧ w = w') at H1
  change Hid (Calls _ _ _ w fun e w' => e = .returned (.bool (hasN b ts.length)) ∧ w = w') at H2
  cases ha : hasN a ts.length with
  | true =>
    rw [ha] at H1
    cases hb : hasN b ts.length with
    | true =>
      rw [hb] at H2
      simp only [Bool.and_self, if_true]
      unfold hasN at ha hb
      simp only [Bool.and_eq_true, decide_eq_true_eq] at ha hb
      obtain ⟨ja, hja⟩ : ∃ ja : Nat, a = ja := ⟨a.toNat, by omega⟩
      obtain ⟨jb, hjb⟩ : ∃ jb : Nat, b = jb := ⟨b.toNat, by omega⟩
      subst hja; subst hjb
      have hla : ja < ts.length := by omega
      have hlb : jb < ts.length := by omega
      simp only [Int.toNat_natCast]
      rw [show ts.getD ja .none = ts[ja] by simp [hla], show ts.getD jb .none = ts[jb] by simp [hlb]]
      have HO := Lib.hid (fun w => order_any ts[ja] ts[jb] w)
      obtain ⟨v, es, clock, h1, h2, h3, h4, h5⟩ := h
      obtain ⟨g, cap, rfl, d1⟩ := row_cell h4 ja hla
      obtain ⟨g2, cap2, hv, d2⟩ := row_cell h4 jb hlb
      obtain rfl : g = g2 := by injection hv with hv _ _; injection hv with hv; injection hv
      obtain ⟨c0, c1, c2, f0⟩ := cells3 h1
      have b1 : (0 : Int) ≤ (ja : Int) := by omega
      have b2 : (ja : Int) < (ts.length : Int) := by omega
      have b3 : (0 : Int) ≤ (jb : Int) := by omega
      have b4 : (jb : Int) < (ts.length : Int) := by omega
      clear h1 h2 h3 h4 h5 hv ha hb c1 c2 f0
      generalize orderV ts[ja] ts[jb] = R at *
      generalize tmV ts[ja] = xa at *
      generalize tmV ts[jb] = xb at *
      go_enter Try.func33, Try.ntmps33
      go_wp2_with fail
      refine H1.out.mono ?_
      rintro e w1 ⟨rfl, rfl⟩
      go_wp2_with fail
      refine H2.out.mono ?_
      rintro e w1 ⟨rfl, rfl⟩
      go_wp2_with fail
      refine wp_region_held_drew (S := (fun w' => w'.cell? ⟨p, 0, none⟩ = some (.slice (some ⟨g, 0, none⟩) ts.length cap) ∧ w'.cell? ⟨g, ja, none⟩ = some xa ∧ w'.cell? ⟨g, jb, none⟩ = some xb)) (by kernel_rfl) ?hSord0 (fun hHeld => ?_)
      case hSord0 => exact ⟨c0, d1, d2⟩
      refine wpAnyH_take (i := 0) (oi := ⟨some 16, _, _, _, _, _⟩) (v := ?vord0) rfl (by kernel_rfl) (by kernel_rfl) (by kernel_rfl) (fun _ _ _ h => h) (Or.inl ⟨by kernel_rfl, ?yord0⟩) (by assumption) ?rord0
      case yord0 =>
        intro w hSw
        try dsimp only at hSw
        first | (go_simp; done) | (go_simp; with_reducible rfl)
      try simp only [Act.put, List.setIfInBounds_toArray, List.set_cons_zero, List.set_cons_succ]
      refine wpAnyH_take (i := 1) (oi := ⟨some 17, _, _, _, _, _⟩) (v := ?vord1) rfl (by kernel_rfl) (by kernel_rfl) (by kernel_rfl) (fun _ _ _ h => h) (Or.inl ⟨by kernel_rfl, ?yord1⟩) (by assumption) ?rord1
      case yord1 =>
        intro w hSw
        try dsimp only at hSw
        first | (go_simp; done) | (go_simp; with_reducible rfl)
      try simp only [Act.put, List.setIfInBounds_toArray, List.set_cons_zero, List.set_cons_succ]
      refine wpAnyH_take (i := 2) (oi := ⟨some 18, _, _, _, _, _⟩) (v := ?vord2) rfl (by kernel_rfl) (by kernel_rfl) (by kernel_rfl) (fun _ _ _ h => h) (Or.inl ⟨by kernel_rfl, ?yord2⟩) (by assumption) ?rord2
      case yord2 =>
        intro w hSw
        try dsimp only at hSw
        first | (go_simp; done) | (go_simp; with_reducible rfl)
      try simp only [Act.put, List.setIfInBounds_toArray, List.set_cons_zero, List.set_cons_succ]
      refine wpAnyH_take (i := 3) (oi := ⟨some 19, _, _, _, _, _⟩) (v := ?vord3) rfl (by kernel_rfl) (by kernel_rfl) (by kernel_rfl) (fun _ _ _ h => h) (Or.inl ⟨by kernel_rfl, ?yord3⟩) (by assumption) ?rord3
      case yord3 =>
        intro w hSw
        try dsimp only at hSw
        first | (go_simp; done) | (go_simp; with_reducible rfl)
      try simp only [Act.put, List.setIfInBounds_toArray, List.set_cons_zero, List.set_cons_succ]
      refine wpAnyH_take (i := 4) (oi := ⟨some 20, _, _, _, _, _⟩) (v := ?vord4) rfl (by kernel_rfl) (by kernel_rfl) (by kernel_rfl) (fun _ _ _ h => h) (Or.inl ⟨by kernel_rfl, ?yord4⟩) (by assumption) ?rord4
      case yord4 =>
        intro w hSw
        try dsimp only at hSw
        first | (go_simp; done) | (go_simp; with_reducible rfl)
      try simp only [Act.put, List.setIfInBounds_toArray, List.set_cons_zero, List.set_cons_succ]
      refine wpAnyH_take (i := 5) (oi := ⟨some 21, _, _, _, _, _⟩) (v := ?vord5) rfl (by kernel_rfl) (by kernel_rfl) (by kernel_rfl) (fun _ _ _ h => h) (Or.inl ⟨by kernel_rfl, ?yord5⟩) (by assumption) ?rord5
      case yord5 =>
        intro w hSw
        try dsimp only at hSw
        first | (go_simp; done) | (go_simp; with_reducible rfl)
      try simp only [Act.put, List.setIfInBounds_toArray, List.set_cons_zero, List.set_cons_succ]
      refine wpAnyH_take (i := 6) (oi := ⟨some 22, _, _, _, _, _⟩) (v := ?vord6) rfl (by kernel_rfl) (by kernel_rfl) (by kernel_rfl) (fun _ _ _ h => h) (Or.inl ⟨by kernel_rfl, ?yord6⟩) (by assumption) ?rord6
      case yord6 =>
        intro w hSw
        try dsimp only at hSw
        first | (go_simp; done) | (go_simp; with_reducible rfl)
      try simp only [Act.put, List.setIfInBounds_toArray, List.set_cons_zero, List.set_cons_succ]
      refine wpAnyH_take (i := 7) (oi := ⟨some 23, _, _, _, _, _⟩) (v := ?vord7) rfl (by kernel_rfl) (by kernel_rfl) (by kernel_rfl) (fun _ _ _ h => h) (Or.inl ⟨by kernel_rfl, ?yord7⟩) (by assumption) ?rord7
      case yord7 =>
        intro w hSw
        try dsimp only at hSw
        first | (go_simp; done) | (go_simp; with_reducible rfl)
      try simp only [Act.put, List.setIfInBounds_toArray, List.set_cons_zero, List.set_cons_succ]
      refine wpAnyH_take (i := 8) (oi := ⟨some 24, _, _, _, _, _⟩) (v := ?vord8) rfl (by kernel_rfl) (by kernel_rfl) (by kernel_rfl) (fun _ _ _ h => h) (Or.inl ⟨by kernel_rfl, ?yord8⟩) (by assumption) ?rord8
      case yord8 =>
        intro w hSw
        try dsimp only at hSw
        first | (go_simp; done) | (go_simp; with_reducible rfl)
      try simp only [Act.put, List.setIfInBounds_toArray, List.set_cons_zero, List.set_cons_succ]
      refine wpAnyH_take (i := 9) (oi := ⟨some 25, _, _, _, _, _⟩) (v := ?vord9) rfl (by kernel_rfl) (by kernel_rfl) (by kernel_rfl) (fun _ _ _ h => h) (Or.inl ⟨by kernel_rfl, ?yord9⟩) (by assumption) ?rord9
      case yord9 =>
        intro w hSw
        try dsimp only at hSw
        first | (go_simp; done) | (go_simp; with_reducible rfl)
      try simp only [Act.put, List.setIfInBounds_toArray, List.set_cons_zero, List.set_cons_succ]
      refine wpAnyH_take (i := 10) (oi := ⟨some 26, _, _, _, _, _⟩) (v := ?vord10) rfl (by kernel_rfl) (by kernel_rfl) (by kernel_rfl) (fun _ _ _ h => h) (Or.inl ⟨by kernel_rfl, ?yord10⟩) (by assumption) ?rord10
      case yord10 =>
        intro w hSw
        try dsimp only at hSw
        first | (go_simp; done) | (go_simp; with_reducible rfl)
      try simp only [Act.put, List.setIfInBounds_toArray, List.set_cons_zero, List.set_cons_succ]
      refine wpAnyH_take (i := 11) (oi := ⟨some 27, _, _, _, _, _⟩) (v := ?vord11) rfl (by kernel_rfl) (by kernel_rfl) (by kernel_rfl) (fun _ _ _ h => h) (Or.inl ⟨by kernel_rfl, ?yord11⟩) (by assumption) ?rord11
      case yord11 =>
        intro w hSw
        try dsimp only at hSw
        first | (go_simp; done) | (go_simp; with_reducible rfl)
      try simp only [Act.put, List.setIfInBounds_toArray, List.set_cons_zero, List.set_cons_succ]
      refine wpAnyH_take (i := 12) (oi := ⟨some 28, _, _, _, _, _⟩) (v := ?vord12) rfl (by kernel_rfl) (by kernel_rfl) (by kernel_rfl) (fun _ _ _ h => h) (Or.inl ⟨by kernel_rfl, ?yord12⟩) (by assumption) ?rord12
      case yord12 =>
        intro w hSw
        try dsimp only at hSw
        first | (go_simp; done) | (go_simp; with_reducible rfl)
      try simp only [Act.put, List.setIfInBounds_toArray, List.set_cons_zero, List.set_cons_succ]
      refine wpAnyH_take (i := 13) (oi := ⟨some 29, _, _, _, _, _⟩) (v := ?vord13) rfl (by kernel_rfl) (by kernel_rfl) (by kernel_rfl) (fun _ _ _ h => h) (Or.inl ⟨by kernel_rfl, ?yord13⟩) (by assumption) ?rord13
      case yord13 =>
        intro w hSw
        try dsimp only at hSw
        first | (go_simp; done) | (go_simp; with_reducible rfl)
      try simp only [Act.put, List.setIfInBounds_toArray, List.set_cons_zero, List.set_cons_succ]
      refine wpAnyH_ready (rs := [14]) (by kernel_rfl) (by simp) ?_
      refine AllReadyH.cons (i := 14) (o := ⟨some 30, _, _, _, _, _⟩) rfl (fun K hK => ?_) AllReadyH.nil
      go_simp
      refine (HO.out _).mono ?_
      rintro e w5 ⟨rfl, hb5⟩
      go_wp2_with fail
      refine hK.out _ _ ?_ (fun hHeld => ?_)
      · exact kept3o (by assumption) hb5
      clear hK K
      try simp only [Act.put, List.setIfInBounds_toArray, List.set_cons_zero, List.set_cons_succ]
      refine wpAnyH_take (i := 15) (oi := ⟨some 6, _, _, _, _, _⟩) (v := ?vord15) rfl (by kernel_rfl) (by kernel_rfl) (by kernel_rfl) (fun _ _ _ h => h) (Or.inl ⟨by kernel_rfl, ?yord15⟩) (by assumption) ?rord15
      case yord15 =>
        intro w hSw
        try dsimp only at hSw
        first | (go_simp; done) | (go_simp; with_reducible rfl)
      try simp only [Act.put, List.setIfInBounds_toArray, List.set_cons_zero, List.set_cons_succ]
      refine wpAnyH_done (by kernel_rfl) ?_ _
      go_wp2_with fail
      go_ret
      exact ⟨rfl, (Below.refl _ w).drew.trans hb5⟩
    | false =>
      rw [hb] at H2
      simp only [Bool.and_false, Bool.false_eq_true, if_false, if_true]
      clear ha hb h
      go_enter Try.func33, Try.ntmps33
      go_wp2_with fail
      refine H1.out.mono ?_
      rintro e w1 ⟨rfl, rfl⟩
      go_wp2_with fail
      refine H2.out.mono ?_
      rintro e w1 ⟨rfl, rfl⟩
      go_wp2_with fail
      refine H1.out.mono ?_
      rintro e w1 ⟨rfl, rfl⟩
      go_wp2_with fail
      go_ret
      exact ⟨rfl, Below.refl _ _⟩
  | false =>
    rw [ha] at H1
    simp only [Bool.false_and, Bool.false_eq_true, if_false]
    cases hb : hasN b ts.length with
    | true =>
      rw [hb] at H2
      simp only [if_true]
      clear ha hb h
      go_enter Try.func33, Try.ntmps33
      go_wp2_with fail
      refine H1.out.mono ?_
      rintro e w1 ⟨rfl, rfl⟩
      go_wp2_with fail
      refine H1.out.mono ?_
      rintro e w1 ⟨rfl, rfl⟩
      go_wp2_with fail
      refine H2.out.mono ?_
      rintro e w1 ⟨rfl, rfl⟩
      go_wp2_with fail
      go_ret
      exact ⟨rfl, Below.refl _ _⟩
    | false =>
      rw [hb] at H2
      simp only [Bool.false_eq_true, if_false]
      clear ha hb h
      go_enter Try.func33, Try.ntmps33
      go_wp2_with fail
      refine H1.out.mono ?_
      rintro e w1 ⟨rfl, rfl⟩
      go_wp2_with fail
      refine H1.out.mono ?_
      rintro e w1 ⟨rfl, rfl⟩
      go_wp2_with fail
      refine H2.out.mono ?_
      rintro e w1 ⟨rfl, rfl⟩
      go_wp2_with fail
      refine (cmpi_any a b _).mono ?_
      rintro e w1 ⟨rfl, rfl⟩
      go_wp2_with fail
      go_ret
      exact ⟨rfl, Below.refl _ _⟩
end Go.Proofs.Ytghimladdioajaa
