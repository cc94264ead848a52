/- The law ScanQuotes: its walk. Every two strings. -/
import Derived.Test.YteicjmippeobpaaDoorScRQuote
import Derived.Test.YteicjmippeobpaaDoorScReads
namespace Go.Proofs.YteicjmippeobpaaDoor
open Go Go.RowKit
set_option linter.unusedVariables false
theorem SgRow.cls {l : List Int} {a : Option Addr} {c : Nat} {w : World} (h : SgRow l a c w) : ClsAt l a l.length w.heap.size w :=
  SgAt.cls (SgAt.of h (Below.refl _ _) (Nat.le_refl _))
set_option maxRecDepth 100000 in
set_option maxHeartbeats 6400000 in
theorem quotes_walk (s b : ByteArray) (w : World) (he : Esc w) (hs : s.size ≤ 9223372036854775807) (hb : b.size ≤ 9223372036854775807) : Calls Tryd.prog 12 #[.string s, .string b] w fun e w' => e = .returned (.bool true) ∧ Below w.heap.size w w' := by
  have HA := Lib.hid (awake_any w he)
  have HA2 := Lib.hid (fun w' (hb : Below w.heap.size w w') => awake_any w' (he.below he.lt hb))
  have HEs := Lib.hid he
  clear he
  by_cases h1 : 300 < s.size ∨ 100 < b.size
  · rcases (by omega : (300 : Int) < s.size ∨ ((s.size : Int) ≤ 300 ∧ (100 : Int) < b.size)) with h2 | ⟨h2, h3⟩
    all_goals
      clear h1
      go_enter Tryd.func12, Tryd.ntmps12
      go_wp2_with fail
      refine HA.out.mono ?_
      rintro e w1 ⟨rfl, hb1⟩
      go_wp2_with fail
      refine (HA2.out _ hb1).mono ?_
      rintro e w2 ⟨rfl, hb2⟩
      go_wp2_with fail
      go_ret
      exact ⟨rfl, hb1.trans (hb2.mono hb1.size)⟩
  have a3 : (s.size : Int) ≤ 300 := by omega
  have b3 : (b.size : Int) ≤ 100 := by omega
  clear h1 hs hb
  obtain ⟨l, r, hr⟩ := read_some s.data.toList
  obtain ⟨m, t, ht⟩ := read_some b.data.toList
  have l1 := read_len hr
  have e1 : s.data.toList.length = s.size := rfl
  rcases r with _ | ⟨x, r⟩
  · have SG := Lib.hid (fun w => signs_row s l w hr (by omega))
    have GD := Lib.hid (fun w => good_any b m t w ht (by omega))
    rcases t with _ | ⟨x, t⟩
    · have l2 := read_len ht
      have e2 : b.data.toList.length = b.size := rfl
      have hsl := hr.2.1
      have q1 := quoteIn_len l
      have p3 : (quoteB l).length = (quoteIn l).length + 1 := by unfold quoteB; simp
      have Q1 := Lib.hid (fun w' (hb : Below w.heap.size w w') => quote_any s l w' hr (by omega) (HEs.out.below HEs.out.lt hb))
      obtain ⟨P, hP⟩ : ∃ P : ByteArray, P = ⟨(quoteB l).toArray⟩ := ⟨_, rfl⟩
      have hPs : P.size = (quoteB l).length := by rw [hP]; rfl
      have hPr : Read P.data.toList (qsigns l) [] := by rw [hP]; exact read_q hsl
      have hJ := read_join2 hPr ht
      have hJs : (P ++ b).size = P.size + b.size := by simp
      have hJl := read_len hJ
      have e3 : (P ++ b).data.toList.length = (P ++ b).size := rfl
      have NW := Lib.hid (fun w => new_ok (P ++ b) (qsigns l ++ m) w hJ (by omega))
      have LN := Lib.hid (fun w => len_any P (qsigns l) [] w hPr (by omega))
      have HQB := Lib.hid (quoted_back l m hsl)
      have HALL := Lib.hid hJ.2.1
      have hJ3 : (qsigns l ++ m).length ≤ 100000 := by omega
      have hPz : P.size ≤ 100000 := by omega
      have RQ := Lib.hid (fun w X c a (h : ClsAt l a l.length X w) => rquote_any l X c a w h hsl (by omega))
      rw [← hP] at Q1 RQ
      have HTB : Hid (tBytes l = s) := Lib.hid (by have := tBytes_read hr; rwa [List.drop_zero] at this)
      have hw0 := HEs.out.lt
      have hqn : (qsigns l).length ≤ 100000 := by rw [List.length_append] at hJ3; omega
      clear hr ht l1 e1 l2 e2 hsl q1 p3 hP hPs hPr hJ hJs hJl e3
      generalize qsigns l = L at NW LN HQB HALL hJ3 hqn
      go_enter Tryd.func12, Tryd.ntmps12
      go_wp2_with fail
      refine HA.out.mono ?_
      rintro e w1 ⟨rfl, hb1⟩
      go_wp2_with fail
      refine (SG.out _).mono ?_
      rintro e w2 ⟨a1, c1, rfl, ho, hb2⟩
      replace hb1 := hb1.trans (hb2.mono hb1.size)
      have HO := Lib.hid ho
      clear hb2 ho
      go_wp2_with fail
      refine (GD.out _).mono ?_
      rintro e w3 ⟨rfl, hb2⟩
      replace hb1 := hb1.trans (hb2.mono hb1.size)
      replace HO := Lib.hid (HO.out.below hb2)
      clear hb2
      go_wp2_with fail
      refine (Q1.out _ hb1).mono ?_
      rintro e w4 ⟨rfl, hb2⟩
      replace hb1 := hb1.trans (hb2.mono hb1.size)
      replace HO := Lib.hid (HO.out.below hb2)
      clear hb2
      go_wp2_with fail
      refine (RQ.out _ _ _ _ HO.out.cls).mono ?_
      rintro e w5 ⟨rfl, hb2⟩
      replace hb1 := hb1.trans (hb2.mono hb1.size)
      clear hb2
      go_wp2_with fail
      refine (NW.out _).mono ?_
      rintro e w6 ⟨X, g, cap, rfl, hS, hX, hg, hb⟩
      have hX0 : 0 < X := by have := hb1.size; omega
      have hXw : w.heap.size ≤ X := by have := hb1.size; omega
      replace hb1 := hb1.trans (hb.mono hb1.size)
      have HS := Lib.hid hS
      clear hb hS
      go_wp2_with fail
      refine (quoted_any (L ++ m) 0 X g cap _ HS.out (HEs.out.below HEs.out.lt hb1) hX0 HALL.out hJ3).mono ?_
      rw [HQB.out]
      intro e w7 hq7
      have hq7 : e = .returned (.tuple #[.string (tBytes l), .int .i64 L.length, .int .i64 0]) ∧ ScW (L ++ m) L.length X g cap w7 ∧ SK X w6 w7 := hq7
      rw [HTB.out] at hq7
      obtain ⟨rfl, hs7, hk7⟩ := hq7
      replace hb1 := hb1.trans (hk7.1.mono hXw)
      replace HS := Lib.hid hs7
      clear hs7 hk7
      go_wp2_with fail
      refine (LN.out _).mono ?_
      rintro e w8 ⟨rfl, hb2⟩
      replace hb1 := hb1.trans (hb2.mono hb1.size)
      replace HS := Lib.hid (HS.out.keep hb2)
      clear hb2
      go_wp2_with fail
      refine (place_any (L ++ m) L.length X g cap _ HS.out).mono ?_
      rintro e w9 ⟨rfl, rfl⟩
      go_wp2_with fail
      go_ret
      exact ⟨rfl, hb1⟩
    · clear hr ht l1 e1
      go_enter Tryd.func12, Tryd.ntmps12
      go_wp2_with fail
      refine HA.out.mono ?_
      rintro e w1 ⟨rfl, hb1⟩
      go_wp2_with fail
      refine (SG.out _).mono ?_
      rintro e w2 ⟨a1, c1, rfl, ho, hb2⟩
      replace hb1 := hb1.trans (hb2.mono hb1.size)
      clear hb2 ho
      go_wp2_with fail
      refine (GD.out _).mono ?_
      rintro e w3 ⟨rfl, hb2⟩
      replace hb1 := hb1.trans (hb2.mono hb1.size)
      clear hb2
      go_wp2_with fail
      go_ret
      exact ⟨rfl, hb1⟩
  · have SG := Lib.hid (fun w => signs_any s l (x :: r) w hr (by omega))
    clear hr ht l1 e1
    go_enter Tryd.func12, Tryd.ntmps12
    go_wp2_with fail
    refine HA.out.mono ?_
    rintro e w1 ⟨rfl, hb1⟩
    go_wp2_with fail
    refine (SG.out _).mono ?_
    rintro e w2 ⟨a1, c1, rfl, ho, hb2⟩
    replace hb1 := hb1.trans (hb2.mono hb1.size)
    clear hb2 ho
    go_wp2_with fail
    go_ret
    exact ⟨rfl, hb1⟩
end Go.Proofs.YteicjmippeobpaaDoor
