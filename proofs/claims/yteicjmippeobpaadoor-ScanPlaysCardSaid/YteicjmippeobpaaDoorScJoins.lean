/- The law ScanJoins: its walk. Every two strings. -/
import Derived.Test.YteicjmippeobpaaDoorScLaid
namespace Go.Proofs.YteicjmippeobpaaDoor
open Go Go.RowKit
theorem read_join {a b : List UInt8} {l m : List Int} (ha : Read a l []) (hb : Read b m []) : Read (a ++ b) (l ++ m) [] := by
  obtain ⟨rfl, h2, _⟩ := ha
  obtain ⟨rfl, g2, _⟩ := hb
  refine ⟨by rw [List.append_nil, List.append_nil, List.append_nil, textB_append], ?_, noSign_nil⟩
  intro n hn
  rcases List.mem_append.1 hn with h | h
  · exact h2 n h
  · exact g2 n h
theorem join_data (a b : ByteArray) : (a ++ b).data.toList = a.data.toList ++ b.data.toList := by rw [ByteArray.data_append, Array.toList_append]
theorem read_join2 {a b : ByteArray} {l m : List Int} (ha : Read a.data.toList l []) (hb : Read b.data.toList m []) : Read (a ++ b).data.toList (l ++ m) [] := by
  rw [join_data]; exact read_join ha hb
set_option maxHeartbeats 1600000 in
theorem joins_walk (a b : ByteArray) (w : World) (he : Esc w) (ha : a.size ≤ 9223372036854775807) (hb : b.size ≤ 9223372036854775807) : Calls Tryd.prog 6 #[.string a, .string b] w fun e w' => e = .returned (.bool true) ∧ Below w.heap.size w w' := by
  have HA := Lib.hid (awake_any w he)
  have HA2 := Lib.hid (fun w' (hb : Below w.heap.size w w') => awake_any w' (he.below he.lt hb))
  clear he
  by_cases h1 : 300 < a.size ∨ 300 < b.size
  · rcases (by omega : (300 : Int) < a.size ∨ ((a.size : Int) ≤ 300 ∧ (300 : Int) < b.size)) with h2 | ⟨h2, h3⟩
    all_goals
      clear h1
      go_enter Tryd.func6, Tryd.ntmps6
      go_wp2_with fail
      refine HA.out.mono ?_
      rintro e w1 ⟨rfl, hb1⟩
      go_wp2_with fail
      refine (HA2.out _ hb1).mono ?_
      rintro e w2 ⟨rfl, hb2⟩
      go_wp2_with fail
      go_ret
      exact ⟨rfl, hb1.trans (hb2.mono hb1.size)⟩
  have a3 : (a.size : Int) ≤ 300 := by omega
  have b3 : (b.size : Int) ≤ 300 := by omega
  clear h1 ha hb
  obtain ⟨l, r, hr⟩ := read_some a.data.toList
  obtain ⟨m, t, ht⟩ := read_some b.data.toList
  have S1 := Lib.hid (fun w => signs_any a l r w hr (by omega))
  have S2 := Lib.hid (fun w => signs_any b m t w ht (by omega))
  rcases r with _ | ⟨x, r⟩
  · rcases t with _ | ⟨x, t⟩
    · have hj := read_join2 hr ht
      have hsz : (a ++ b).size = a.size + b.size := by simp
      have G := Lib.hid (fun w => good_any (a ++ b) (l ++ m) [] w hj (by omega))
      have L1 := Lib.hid (fun w => len_any (a ++ b) (l ++ m) [] w hj (by omega))
      have L2 := Lib.hid (fun w => len_any a l [] w hr (by omega))
      have L3 := Lib.hid (fun w => len_any b m [] w ht (by omega))
      have l1 := read_len hr
      have l2 := read_len ht
      have e1 : a.data.toList.length = a.size := rfl
      have e2 : b.data.toList.length = b.size := rfl
      have ll : l.length ≤ 300 := by omega
      have lm : m.length ≤ 300 := by omega
      clear hr ht hj l1 l2 e1 e2 hsz
      have hlm : (l ++ m).length = l.length + m.length := by simp
      rw [hlm] at L1
      clear hlm
      go_enter Tryd.func6, Tryd.ntmps6
      go_wp2_with fail
      refine HA.out.mono ?_
      rintro e w1 ⟨rfl, hb1⟩
      go_wp2_with fail
      refine (S1.out _).mono ?_
      rintro e w2 ⟨a1, c1, rfl, _, hb2⟩
      replace hb1 := hb1.trans (hb2.mono hb1.size)
      clear hb2
      go_wp2_with fail
      refine (S2.out _).mono ?_
      rintro e w3 ⟨a2, c2, rfl, _, hb2⟩
      replace hb1 := hb1.trans (hb2.mono hb1.size)
      clear hb2
      go_wp2_with fail
      refine (G.out _).mono ?_
      rintro e w4 ⟨rfl, hb2⟩
      replace hb1 := hb1.trans (hb2.mono hb1.size)
      clear hb2
      go_wp2_with fail
      refine (L1.out _).mono ?_
      rintro e w5 ⟨rfl, hb2⟩
      replace hb1 := hb1.trans (hb2.mono hb1.size)
      clear hb2
      go_wp2_with fail
      refine (L1.out _).mono ?_
      rintro e w6 ⟨rfl, hb2⟩
      replace hb1 := hb1.trans (hb2.mono hb1.size)
      clear hb2
      go_wp2_with fail
      refine (L2.out _).mono ?_
      rintro e w7 ⟨rfl, hb2⟩
      replace hb1 := hb1.trans (hb2.mono hb1.size)
      clear hb2
      go_wp2_with fail
      refine (L3.out _).mono ?_
      rintro e w8 ⟨rfl, hb2⟩
      replace hb1 := hb1.trans (hb2.mono hb1.size)
      clear hb2
      go_wp2_with fail
      go_ret
      exact ⟨rfl, hb1⟩
    · go_enter Tryd.func6, Tryd.ntmps6
      go_wp2_with fail
      refine HA.out.mono ?_
      rintro e w1 ⟨rfl, hb1⟩
      go_wp2_with fail
      refine (S1.out _).mono ?_
      rintro e w2 ⟨a1, c1, rfl, _, hb2⟩
      go_wp2_with fail
      refine (S2.out _).mono ?_
      rintro e w3 ⟨a2, c2, rfl, _, hb3⟩
      go_wp2_with fail
      go_ret
      exact ⟨rfl, hb1.trans ((hb2.trans (hb3.mono hb2.size)).mono hb1.size)⟩
  · go_enter Tryd.func6, Tryd.ntmps6
    go_wp2_with fail
    refine HA.out.mono ?_
    rintro e w1 ⟨rfl, hb1⟩
    go_wp2_with fail
    refine (S1.out _).mono ?_
    rintro e w2 ⟨a1, c1, rfl, _, hb2⟩
    go_wp2_with fail
    refine (S2.out _).mono ?_
    rintro e w3 ⟨a2, c2, rfl, _, hb3⟩
    go_wp2_with fail
    go_ret
    exact ⟨rfl, hb1.trans ((hb2.trans (hb3.mono hb2.size)).mono hb1.size)⟩
end Go.Proofs.YteicjmippeobpaaDoor
