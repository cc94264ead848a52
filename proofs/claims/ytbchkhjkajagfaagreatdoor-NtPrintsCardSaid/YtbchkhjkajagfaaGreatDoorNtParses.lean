/- The law NtParses: its walk. Every string. -/
import Derived.Test.YtbchkhjkajagfaaGreatDoorNtRParse
import Derived.Test.YtbchkhjkajagfaaGreatDoorNtT3
import Derived.Test.YtbchkhjkajagfaaGreatDoorNtAwake
namespace Go.Proofs.YtbchkhjkajagfaaGreatDoor
open Go Go.RowKit
set_option linter.unusedVariables false
set_option linter.unusedSimpArgs false
set_option maxRecDepth 100000
theorem rparse_any {G : Tm → Bool} (hG : GoodFn G) (s : ByteArray) (l : List Int) (r : List UInt8) (w : World) (h : Read s.data.toList l r) (hs : s.size ≤ 1048576) (hb : l.length ≤ 100000) :
    Calls Tryz.prog 11 #[.string s] w (RParseEnd w (parseS G l r)) := by
  by_cases hr : r = []
  · subst hr
    unfold parseS
    rw [if_pos rfl]
    exact rparse_row hG s l w h hs hb
  · have HSI := Lib.hid (signs_any s l r w h hs)
    have he : r.isEmpty = false := by cases r with
      | nil => exact absurd rfl hr
      | cons a b => rfl
    rw [he] at HSI
    unfold SignsRes at HSI
    unfold parseS
    rw [if_neg hr]
    clear h hr he
    go_enter Tryz.func11, Tryz.ntmps11
    go_wp2_with fail
    refine HSI.out.mono ?_
    rintro e w1 ⟨a, c, rfl, -, hb1⟩
    go_wp2_with fail
    refine bodyPost_ret (v := .tuple #[.slice none 0 0, .int .i64 l.length, .int .i64 1]) (by simp [results, Tryz.results11, go_sem]) rfl ?_
    exact ⟨_, rfl, RowOf.nil _ _, hb1⟩
theorem line_signs {G : Tm → Bool} {t : Tri} (ht : GoodTri G t) : Signs (lineS t) := by
  have hc : ∀ {x : Int} {l : List Int}, SignP x → Signs l → Signs (x :: l) := fun hx hl n hn => by
    rcases List.mem_cons.1 hn with rfl | hn
    · exact hx
    · exact hl n hn
  have h32 : SignP 32 := by decide
  have h46 : SignP 46 := by decide
  have h10 : SignP 10 := by decide
  unfold lineS triS
  exact Signs.app (Signs.app (tmS_all ht.1.1).2.2 (hc h32 (Signs.app (tmS_all ht.2.1.1).2.2 (hc h32 (Signs.app (tmS_all ht.2.2.1).2.2 (hc h32 (hc h46 Signs.nil))))))) (hc h10 Signs.nil)
theorem lines_signs {G : Tm → Bool} : ∀ (ts : List Tri), (∀ t ∈ ts, GoodTri G t) → Signs (linesS ts)
  | [], _ => Signs.nil
  | t :: ts, h => by
    unfold linesS
    rw [List.flatMap_cons]
    exact Signs.app (line_signs (h t List.mem_cons_self)) (lines_signs ts (fun x hx => h x (List.mem_cons_of_mem _ hx)))
/-- what any text is parsed as -/
theorem parseS_facts {G : Tm → Bool} (hG : GoodFn G) {s : ByteArray} {l : List Int} {r : List UInt8} (h : Read s.data.toList l r) (hb : l.length ≤ 100000) : (∀ t ∈ (parseS G l r).1, GoodTri G t ∧ SmallTri t ∧ KeyTri t) ∧ (linesS (parseS G l r).1).length ≤ 7 * l.length := by
  unfold parseS
  split
  · exact parse_facts hG h.2.1 hb _ 0 [] (Nat.zero_le _) (fun t ht => (by cases ht)) (by simp [linesS])
  · exact ⟨fun t ht => (by cases ht), by simp [linesS]⟩
set_option maxHeartbeats 12800000 in
theorem ntparses_walk (s : ByteArray) (w : World) (he : Esc w) (hm : MaxV w) (hs : s.size ≤ 9223372036854775807) : Calls Tryz.prog 5 #[.string s] w fun e w' => e = .returned (.bool true) ∧ Below w.heap.size w w' := by
  obtain ⟨G, hG⟩ := good_fn
  have HA := Lib.hid (fun w' (hb : Below w.heap.size w w') => nawake_any hG w' (he.below he.lt hb) (hm.below hb))
  by_cases h1 : (600 : Int) < s.size
  · clear he hm hG
    go_enter Tryz.func5, Tryz.ntmps5
    go_wp2_with fail
    refine (HA.out _ (Below.refl _ _)).mono ?_
    rintro e w1 ⟨rfl, hb1⟩
    go_wp2_with fail
    refine (HA.out _ hb1).mono ?_
    rintro e w2 ⟨rfl, hb2⟩
    go_wp2_with fail
    go_ret
    exact ⟨rfl, hb1.trans (hb2.mono hb1.size)⟩
  have q1 : decide ((600 : Int) < (s.size : Int)) = false := decide_eq_false h1
  obtain ⟨l, r, hr⟩ := read_some s.data.toList
  have hll := read_len hr
  have e1 : s.data.toList.length = s.size := rfl
  have hl6 : l.length ≤ 600 := by omega
  have hpf := parseS_facts hG hr (by omega)
  have hlg := lines_ge (parseS G l r).1
  have HP1 := Lib.hid (fun w' (hb : Below w.heap.size w w') => parse_any hG s l r w' hr (by omega) (by omega) (he.below he.lt hb) (hm.below hb))
  have HP2 := Lib.hid (fun w' => rparse_any hG s l r w' hr (by omega) (by omega))
  unfold ParseEnd at HP1
  unfold RParseEnd at HP2
  obtain ⟨ts, n, c, hR⟩ : ∃ ts n c, parseS G l r = (ts, n, c) := ⟨_, _, _, rfl⟩
  rw [hR] at HP1 HP2 hpf hlg
  dsimp only at HP1 HP2 hpf hlg
  have hcnt : ts.length ≤ 4200 := by omega
  have hall : ts.length ≤ 100000 := by omega
  have HK := Lib.hid (fun t ht => (hpf.1 t ht).2.2)
  have HPR := Lib.hid (fun wx base V (hx : Below w.heap.size w wx) (hrow : TriRow wx base V ts) => print_any (G := G) wx hrow (fun t ht => ⟨(hpf.1 t ht).1, (hpf.1 t ht).2.1⟩) hall (he.below he.lt hx))
  have hsz := tB_size (linesS ts)
  have HP3 := Lib.hid (fun w' (hb : Below w.heap.size w w') => parse_any hG (tBytes (linesS ts)) (linesS ts) [] w' (read_tB (lines_signs ts (fun t ht => (hpf.1 t ht).1))) (by omega) (by omega) (he.below he.lt hb) (hm.below hb))
  unfold ParseEnd parseS at HP3
  rw [if_pos rfl, parse_back ts (fun t ht => (hpf.1 t ht).1)] at HP3
  dsimp only at HP3
  generalize tBytes (linesS ts) = Z at *
  clear he hm hG h1 hr hll e1 hl6 hpf hlg hR hcnt hsz
  go_enter Tryz.func5, Tryz.ntmps5
  go_wp2_with fail
  refine (HA.out _ (Below.refl _ _)).mono ?_
  rintro e w1 ⟨rfl, hb1⟩
  have HB1 := Lib.hid hb1
  clear hb1
  go_wp2_with fail
  refine (HP1.out _ HB1.out).mono ?_
  rintro e w2 ⟨V, rfl, hv, hb2⟩
  have HV := Lib.hid hv
  have HB2 := Lib.hid (HB1.out.trans (hb2.mono HB1.out.size))
  clear hv hb2
  go_wp2_with fail
  refine (HP2.out _).mono ?_
  rintro e w3 ⟨V2, rfl, hv2, hb3⟩
  have HV3 := Lib.hid (HV.out.below hb3)
  have HU3 := Lib.hid hv2
  have HB3 := Lib.hid (HB2.out.trans (hb3.mono HB2.out.size))
  clear hv2 hb3 HV
  have HIS := Lib.hid (is4_any _ _ V V2 ts w3 HV3.out HU3.out HK.out hall)
  go_wp2_with fail
  refine HIS.out.mono ?_
  rintro e w4 ⟨rfl, hb4⟩
  have HV4 := Lib.hid (HV3.out.below hb4)
  have HU4 := Lib.hid (HU3.out.below hb4)
  have HB4 := Lib.hid (HB3.out.trans (hb4.mono HB3.out.size))
  clear hb4 HV3 HU3 HIS
  go_wp2_with fail
  refine (HPR.out _ _ _ HB4.out HV4.out).mono ?_
  rintro e w5 ⟨rfl, hb5⟩
  have HU5 := Lib.hid (HU4.out.below hb5)
  have HB5 := Lib.hid (HB4.out.trans (hb5.mono HB4.out.size))
  clear hb5 HV4 HU4
  go_wp2_with fail
  refine (HP3.out _ HB5.out).mono ?_
  rintro e w6 ⟨V9, rfl, hv9, hb6⟩
  have HU6 := Lib.hid (HU5.out.below hb6)
  have HB6 := Lib.hid (HB5.out.trans (hb6.mono HB5.out.size))
  have HIS := Lib.hid (is4_any _ _ V9 V2 ts w6 hv9 HU6.out HK.out hall)
  clear hv9 hb6 HU5
  go_wp2_with fail
  refine HIS.out.mono ?_
  rintro e w7 ⟨rfl, hb7⟩
  go_wp2_with fail
  go_ret
  exact ⟨rfl, HB6.out.trans (hb7.mono HB6.out.size)⟩
end Go.Proofs.YtbchkhjkajagfaaGreatDoor
