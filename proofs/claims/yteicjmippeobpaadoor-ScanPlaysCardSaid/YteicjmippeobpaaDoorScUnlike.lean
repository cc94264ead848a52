/- The law ScanUnlike: its walk. Every two strings. -/
import Derived.Test.YteicjmippeobpaaDoorScUnPlain
namespace Go.Proofs.YteicjmippeobpaaDoor
open Go Go.RowKit
/-- an owned row of integers of at least one element: its address, its cells -/
theorem ints_cells {w : World} {base : Nat} {L : List Int} {a : Option Addr} {cap : Nat} (ho : w.ownsRow base 3 1 (.slice a L.length cap) L.length (intsV L)) (hn : 0 < L.length) :
    ∃ g, a = some ⟨g, 0, none⟩ ∧ ∀ j (hj : j < L.length), w.cell? ⟨g, j, none⟩ = some (.int .i64 (L[j]'hj)) := by
  rcases ho.2 with ⟨h1, _⟩ | ⟨g, c, cur, h1, h2, _⟩
  · injection h1 with _ h _; omega
  · injection h1 with h _ _
    subst h
    refine ⟨g, rfl, fun j hj => ?_⟩
    rw [ho.cellAt j (by omega)]
    unfold intsV
    rw [List.getElem?_map, List.getElem?_eq_getElem hj]
    rfl
theorem list_ne {P T : ByteArray} (h : P ≠ T) : (P.toList == T.toList) = false := by
  rw [beq_eq_false_iff_ne]
  intro e
  rw [Lib.toList_data, Lib.toList_data] at e
  exact h (bytes_eq e)
set_option maxRecDepth 100000 in
set_option maxHeartbeats 3200000 in
theorem unlike_walk (a b : ByteArray) (w : World) (he : Esc w) (ha : a.size ≤ 9223372036854775807) (hb : b.size ≤ 9223372036854775807) : Calls Tryd.prog 4 #[.string a, .string b] w fun e w' => e = .returned (.bool true) ∧ Below w.heap.size w w' := by
  have HA := Lib.hid (awake_any w he)
  have HA2 := Lib.hid (fun w' (hb : Below w.heap.size w w') => awake_any w' (he.below he.lt hb))
  have HE := Lib.hid he
  clear he
  by_cases h1 : 300 < a.size ∨ 300 < b.size
  · rcases (by omega : (300 : Int) < a.size ∨ ((a.size : Int) ≤ 300 ∧ (300 : Int) < b.size)) with h2 | ⟨h2, h3⟩
    all_goals
      clear h1
      go_enter Tryd.func4, Tryd.ntmps4
      go_wp2_with fail
      refine HA.out.mono ?_
      rintro e w1 ⟨rfl, hb1⟩
      go_wp2_with fail
      refine (HA2.out _ hb1).mono ?_
      rintro e w2 ⟨rfl, hb2⟩
      go_wp2_with fail
      go_ret
      exact ⟨rfl, hb1.trans (hb2.mono hb1.size)⟩
  have a3 : (a.size : Int) ≤ 300 := by omega
  have b3 : (b.size : Int) ≤ 300 := by omega
  clear h1 ha hb
  obtain ⟨l, r, hr⟩ := read_some a.data.toList
  obtain ⟨m, t, ht⟩ := read_some b.data.toList
  have S1 := Lib.hid (fun w => signs_any a l r w hr (by omega))
  have S2 := Lib.hid (fun w => signs_any b m t w ht (by omega))
  rcases r with _ | ⟨x, r⟩
  · rcases t with _ | ⟨x, t⟩
    · have he2 : ∀ w', Below w.heap.size w w' → Esc w' := fun w' hb => HE.out.below HE.out.lt hb
      have hsl := hr.2.1
      have hsm := ht.2.1
      have l1 := read_len hr
      have l2 := read_len ht
      have e1 : a.data.toList.length = a.size := rfl
      have e2 : b.data.toList.length = b.size := rfl
      have q1 := quoteIn_len l
      have q2 := quoteIn_len m
      have p3 : (quoteB l).length = (quoteIn l).length + 1 := by unfold quoteB; simp
      have t3 : (quoteB m).length = (quoteIn m).length + 1 := by unfold quoteB; simp
      have Q1 := Lib.hid (fun w' hb => quote_any a l w' hr (by omega) (he2 w' hb))
      have Q2 := Lib.hid (fun w' hb => quote_any b m w' ht (by omega) (he2 w' hb))
      have hab : (quoteB l = quoteB m ∧ a = b) ∨ (quoteB l ≠ quoteB m ∧ a ≠ b) := by
        by_cases h : a = b
        · subst h
          rw [(read_one hr ht).1]
          exact .inl ⟨rfl, rfl⟩
        · refine .inr ⟨fun hq => h ?_, h⟩
          have := quote_inj hsl hsm hq
          refine bytes_eq ?_
          rw [hr.1, ht.1, this]
      obtain ⟨P, hP⟩ : ∃ P : ByteArray, P = ⟨(quoteB l).toArray⟩ := ⟨_, rfl⟩
      obtain ⟨T, hT⟩ : ∃ T : ByteArray, T = ⟨(quoteB m).toArray⟩ := ⟨_, rfl⟩
      have hPs : P.size = (quoteB l).length := by rw [hP]; rfl
      have hPr : Read P.data.toList (qsigns l) [] := by rw [hP]; exact read_q hsl
      have SP := Lib.hid (fun w => signs_any P (qsigns l) [] w hPr (by omega))
      have hfin : (P = T ∧ a = b) ∨ (P ≠ T ∧ a ≠ b) := by
        rcases hab with ⟨h1, h2⟩ | ⟨h1, h2⟩
        · exact .inl ⟨by rw [hP, hT, h1], h2⟩
        · refine .inr ⟨fun h => h1 ?_, h2⟩
          have := congrArg (fun x : ByteArray => x.data.toList) h
          rw [hP, hT] at this
          exact this
      rw [← hP] at Q1
      rw [← hT] at Q2
      have HQ := Lib.hid (fun n (hn : n ∈ qsigns l) => q_sign hsl hn)
      have hN : 0 < (qsigns l).length := by unfold qsigns qsignsIn; simp
      have hN2 : (qsigns l).length ≤ 2000 := by have := read_len hPr; have e3 : P.data.toList.length = P.size := rfl; omega
      have HFIN := Lib.hid hfin
      clear hr ht he2 hsl hsm l1 l2 e1 e2 q1 q2 p3 t3 hab hP hT hPs hPr hfin
      generalize qsigns l = L at SP HQ hN hN2
      go_enter Tryd.func4, Tryd.ntmps4
      go_wp2_with fail
      refine HA.out.mono ?_
      rintro e w1 ⟨rfl, hb1⟩
      go_wp2_with fail
      refine (S1.out _).mono ?_
      rintro e w2 ⟨a1, c1, rfl, _, hb2⟩
      replace hb1 := hb1.trans (hb2.mono hb1.size)
      clear hb2
      go_wp2_with fail
      refine (S2.out _).mono ?_
      rintro e w3 ⟨a2, c2, rfl, _, hb2⟩
      replace hb1 := hb1.trans (hb2.mono hb1.size)
      clear hb2
      go_wp2_with fail
      refine (Q1.out _ hb1).mono ?_
      rintro e w4 ⟨rfl, hb2⟩
      replace hb1 := hb1.trans (hb2.mono hb1.size)
      clear hb2
      go_wp2_with fail
      refine (SP.out _).mono ?_
      rintro e w5 ⟨a3', c3, rfl, ho, hb2⟩
      replace hb1 := hb1.trans (hb2.mono hb1.size)
      obtain ⟨g, rfl, hcells⟩ := ints_cells ho hN
      have HC := Lib.hid hcells
      clear hb2 ho hcells
      go_wp2_with fail
      go_loop [50] (fun i => ∃ k : Nat, k ≤ L.length ∧ i = .int .i64 k) (fun i => L.length - (intOf i).toNat)
      case atStart => exact ⟨0, by omega, rfl⟩
      case round =>
        obtain ⟨k, hk, rfl⟩ := hrel
        by_cases hlt : k < L.length
        · have hc := HC.out k hlt
          obtain ⟨n1, n2, n3, n4, n5⟩ := HQ.out _ (List.getElem_mem hlt)
          generalize L[k] = n at hc n1 n2 n3 n4 n5
          have m1 : -9223372036854775808 ≤ n := by unfold SignP at n1; omega
          have m2 : n ≤ 9223372036854775807 := by unfold SignP at n1; omega
          have t1 : (classV n == 4) = false := beq_eq_false_iff_ne.mpr n2
          have t2 : (n == 9) = false := beq_eq_false_iff_ne.mpr n3
          have t3 : (n == 10) = false := beq_eq_false_iff_ne.mpr n4
          have t4 : (n == 13) = false := beq_eq_false_iff_ne.mpr n5
          clear n1 n2 n3 n4 n5
          go_wp2_with (go_at_call 16; refine (rclass_any n _ m1 m2).mono ?_; rintro e w' ⟨rfl, rfl⟩)
          go_round
          case rel => exact ⟨k + 1, by omega, by go_num⟩
          case measure => simp [intOf]; omega
        · go_wp2_with fail
          refine (Q1.out _ hb1).mono ?_
          rintro e w6 ⟨rfl, hb2⟩
          replace hb1 := hb1.trans (hb2.mono hb1.size)
          clear hb2
          go_wp2_with fail
          refine (Q2.out _ hb1).mono ?_
          rintro e w7 ⟨rfl, hb2⟩
          replace hb1 := hb1.trans (hb2.mono hb1.size)
          clear hb2
          rcases HFIN.out with ⟨f1, f2⟩ | ⟨f1, f2⟩
          · subst f1 f2
            go_wp2_with fail
            go_ret
            exact ⟨rfl, hb1⟩
          · have b1 := list_ne f1
            have b2 := list_ne f2
            have B1 := Lib.hid b1
            have B2 := Lib.hid b2
            clear b1 b2 f1 f2
            go_wp2_with fail
            go_ret
            exact ⟨ret_bool (by rw [B1.out, B2.out]; rfl), hb1⟩
    · go_enter Tryd.func4, Tryd.ntmps4
      go_wp2_with fail
      refine HA.out.mono ?_
      rintro e w1 ⟨rfl, hb1⟩
      go_wp2_with fail
      refine (S1.out _).mono ?_
      rintro e w2 ⟨a1, c1, rfl, _, hb2⟩
      go_wp2_with fail
      refine (S2.out _).mono ?_
      rintro e w3 ⟨a2, c2, rfl, _, hb3⟩
      go_wp2_with fail
      go_ret
      exact ⟨rfl, hb1.trans ((hb2.trans (hb3.mono hb2.size)).mono hb1.size)⟩
  · go_enter Tryd.func4, Tryd.ntmps4
    go_wp2_with fail
    refine HA.out.mono ?_
    rintro e w1 ⟨rfl, hb1⟩
    go_wp2_with fail
    refine (S1.out _).mono ?_
    rintro e w2 ⟨a1, c1, rfl, _, hb2⟩
    go_wp2_with fail
    refine (S2.out _).mono ?_
    rintro e w3 ⟨a2, c2, rfl, _, hb3⟩
    go_wp2_with fail
    go_ret
    exact ⟨rfl, hb1.trans ((hb2.trans (hb3.mono hb2.size)).mono hb1.size)⟩
end Go.Proofs.YteicjmippeobpaaDoor
