/- The law NtTerms: its walk. Every term and string. -/
import Derived.Test.YtbchkhjkajagfaaDoorNtAwake
import Derived.Test.YtbchkhjkajagfaaDoorNtText
import Derived.Test.YtbchkhjkajagfaaDoorNtRRead
namespace Go.Proofs.YtbchkhjkajagfaaDoor
open Go Go.RowKit
set_option linter.unusedVariables false
set_option linter.unusedSimpArgs false
set_option maxRecDepth 100000
theorem tmS_le {X : Tm} (hX : GoodS X) : (tmS X).length ≤ 6 * (text0 X).size + (text1 X).size + (text2 X).size + 6 := by
  cases X with
  | blank s =>
    have h1 : (sg s).length ≤ s.size := read_len hX.1
    show _ ≤ 6 * s.size + _ + _ + 6
    rw [tmS_blank]; simp only [List.length_cons]; omega
  | iri s =>
    have h1 : (sg s).length ≤ s.size := read_len hX.1
    show _ ≤ 6 * s.size + _ + _ + 6
    rw [tmS_iri]; simp only [List.length_cons, List.length_append, List.length_nil]; omega
  | lit s t g =>
    have h1 : (sg s).length ≤ s.size := read_len hX.1
    have h2 : (sg t).length ≤ t.size := read_len hX.2.1
    have hq := qsigns_le (sg s)
    show _ ≤ 6 * s.size + t.size + g.size + 6
    rw [tmS_lit]
    rcases hX.2.2.2 with ⟨rfl, _⟩ | ⟨hne, _, hg, _⟩
    · rw [if_pos rfl]
      split
      · simp only [List.length_append, List.length_nil]; omega
      · simp only [List.length_append, List.length_cons, List.length_nil]; omega
    · have h3 : (sg g).length ≤ g.size := read_len hg
      rw [if_neg hne]
      simp only [List.length_append, List.length_cons]; omega
  | odd n => exact hX.elim
  | none => exact hX.elim
theorem tmS_signs {X : Tm} (hX : GoodS X) : Signs (tmS X) := by
  have h60 : SignP 60 := by decide
  have h62 : SignP 62 := by decide
  have h64 : SignP 64 := by decide
  have h94 : SignP 94 := by decide
  have h95 : SignP 95 := by decide
  have h58 : SignP 58 := by decide
  have hc : ∀ {x : Int} {l : List Int}, SignP x → Signs l → Signs (x :: l) := fun hx hl n hn => by
    rcases List.mem_cons.1 hn with rfl | hn
    · exact hx
    · exact hl n hn
  cases X with
  | blank s => exact hc h95 (hc h58 hX.1.2.1)
  | iri s => exact hc h60 (Signs.app hX.1.2.1 (hc h62 Signs.nil))
  | lit s t g =>
    rw [tmS_lit]
    have hq : Signs (qsigns (sg s)) := fun n hn => (q_sign hX.1.2.1 hn).1
    rcases hX.2.2.2 with ⟨rfl, _⟩ | ⟨hne, _, hg, _⟩
    · rw [if_pos rfl]
      split
      · exact Signs.app hq Signs.nil
      · exact Signs.app hq (hc h94 (hc h94 (hc h60 (Signs.app hX.2.1.2.1 (hc h62 Signs.nil)))))
    · rw [if_neg hne]
      exact Signs.app hq (hc h64 hg.2.1)
  | odd n => exact hX.elim
  | none => exact hX.elim
theorem tm_read {X : Tm} (hX : GoodS X) : Read (tBytes (tmS X)).data.toList (tmS X) [] := read_tB (tmS_signs hX)
theorem eq_refl_T2 (X : Tm) (w : World) : (Go.binOp BinOp.eql 36 (refT X) (refT X)).run Tryd.prog w = .ok (.bool true) w := by
  rw [eq_refT]
  have : eqD X X = true := by unfold eqD; simp [sameS]
  rw [this]
set_option maxHeartbeats 12800000 in
theorem ntterms_walk (k : Int) (s t g more : ByteArray) (w : World) (he : Esc w) (hm : MaxV w) (z0 : s.size ≤ 9223372036854775807) (z1 : t.size ≤ 9223372036854775807) (z2 : g.size ≤ 9223372036854775807) (z3 : more.size ≤ 9223372036854775807) :
    Calls Tryd.prog 6 #[.agg #[.int .i64 k, .string s, .string t, .string g], .string more] w fun e w' => e = .returned (.bool true) ∧ Below w.heap.size w w' := by
  obtain ⟨G, hG⟩ := good_fn
  have HA := Lib.hid (fun w' (hb : Below w.heap.size w w') => nawake_any hG w' (he.below he.lt hb) (hm.below hb))
  have HEs := Lib.hid he
  have HMs := Lib.hid hm
  have HGF := Lib.hid hG
  clear he hm hG
  obtain ⟨W1, hW1⟩ : ∃ W1, W1 = w.alloc (.cells #[.int .i64 k, .string s, .string t, .string g] 36) := ⟨_, rfl⟩
  have HB1 : Hid (Below w.heap.size w W1) := Lib.hid (by rw [hW1]; exact (Below.refl _ _).alloc (Nat.le_refl _) _)
  have hx1 : W1.heap[w.heap.size]? = some (.cells #[.int .i64 k, .string s, .string t, .string g] 36 (0, 0)) := by rw [hW1]; exact blk_new w _ _
  have HX1 := Lib.hid hx1
  have HW1 := Lib.hid hW1
  obtain ⟨c0, c1, c2, c3, -⟩ := blk4 hx1
  clear hW1 hx1
  by_cases a1 : (300 : Int) < s.size
  · have q1 : decide ((300 : Int) < s.size) = true := decide_eq_true a1
    clear a1
    go_enter Tryd.func6, Tryd.ntmps6
    go_wp2_with fail
    rw [← HW1.out]
    refine (HA.out _ HB1.out).mono ?_
    rintro e w1 ⟨rfl, hb1⟩
    have HB2 := Lib.hid (HB1.out.trans (hb1.mono HB1.out.size))
    have HX2 := Lib.hid (blk_below HX1.out hb1)
    clear c0 c1 c2 c3 hb1
    obtain ⟨c0, c1, c2, c3, -⟩ := blk4 HX2.out
    go_wp2_with fail
    refine (HA.out _ HB2.out).mono ?_
    rintro e w2 ⟨rfl, hb2⟩
    go_wp2_with fail
    go_ret
    exact ⟨rfl, HB2.out.trans (hb2.mono HB2.out.size)⟩
  have q1 : decide ((300 : Int) < s.size) = false := decide_eq_false a1
  by_cases a2 : (300 : Int) < t.size
  · have q2 : decide ((300 : Int) < t.size) = true := decide_eq_true a2
    clear a1 a2
    go_enter Tryd.func6, Tryd.ntmps6
    go_wp2_with fail
    rw [← HW1.out]
    refine (HA.out _ HB1.out).mono ?_
    rintro e w1 ⟨rfl, hb1⟩
    have HB2 := Lib.hid (HB1.out.trans (hb1.mono HB1.out.size))
    have HX2 := Lib.hid (blk_below HX1.out hb1)
    clear c0 c1 c2 c3 hb1
    obtain ⟨c0, c1, c2, c3, -⟩ := blk4 HX2.out
    go_wp2_with fail
    refine (HA.out _ HB2.out).mono ?_
    rintro e w2 ⟨rfl, hb2⟩
    go_wp2_with fail
    go_ret
    exact ⟨rfl, HB2.out.trans (hb2.mono HB2.out.size)⟩
  have q2 : decide ((300 : Int) < t.size) = false := decide_eq_false a2
  by_cases a3 : (100 : Int) < g.size
  · have q3 : decide ((100 : Int) < g.size) = true := decide_eq_true a3
    clear a1 a2 a3
    go_enter Tryd.func6, Tryd.ntmps6
    go_wp2_with fail
    rw [← HW1.out]
    refine (HA.out _ HB1.out).mono ?_
    rintro e w1 ⟨rfl, hb1⟩
    have HB2 := Lib.hid (HB1.out.trans (hb1.mono HB1.out.size))
    have HX2 := Lib.hid (blk_below HX1.out hb1)
    clear c0 c1 c2 c3 hb1
    obtain ⟨c0, c1, c2, c3, -⟩ := blk4 HX2.out
    go_wp2_with fail
    refine (HA.out _ HB2.out).mono ?_
    rintro e w2 ⟨rfl, hb2⟩
    go_wp2_with fail
    go_ret
    exact ⟨rfl, HB2.out.trans (hb2.mono HB2.out.size)⟩
  have q3 : decide ((100 : Int) < g.size) = false := decide_eq_false a3
  by_cases a4 : (100 : Int) < more.size
  · have q4 : decide ((100 : Int) < more.size) = true := decide_eq_true a4
    clear a1 a2 a3 a4
    go_enter Tryd.func6, Tryd.ntmps6
    go_wp2_with fail
    rw [← HW1.out]
    refine (HA.out _ HB1.out).mono ?_
    rintro e w1 ⟨rfl, hb1⟩
    have HB2 := Lib.hid (HB1.out.trans (hb1.mono HB1.out.size))
    have HX2 := Lib.hid (blk_below HX1.out hb1)
    clear c0 c1 c2 c3 hb1
    obtain ⟨c0, c1, c2, c3, -⟩ := blk4 HX2.out
    go_wp2_with fail
    refine (HA.out _ HB2.out).mono ?_
    rintro e w2 ⟨rfl, hb2⟩
    go_wp2_with fail
    go_ret
    exact ⟨rfl, HB2.out.trans (hb2.mono HB2.out.size)⟩
  have q4 : decide ((100 : Int) < more.size) = false := decide_eq_false a4
  have HPLN0 := plain4_any k s t g
  have hkx : KeyT (termK k s t g) := termK_key k s t g
  have hsz : (text0 (termK k s t g)).size ≤ 300 ∧ (text1 (termK k s t g)).size ≤ 300 ∧ (text2 (termK k s t g)).size ≤ 100 := by
    unfold termK
    split
    · exact ⟨by show s.size ≤ _; omega, by show (⟨#[]⟩ : ByteArray).size ≤ _; decide, by show (⟨#[]⟩ : ByteArray).size ≤ _; decide⟩
    · split
      · exact ⟨by show s.size ≤ _; omega, by show (⟨#[]⟩ : ByteArray).size ≤ _; decide, by show (⟨#[]⟩ : ByteArray).size ≤ _; decide⟩
      · exact ⟨by show s.size ≤ _; omega, by show t.size ≤ _; omega, by show g.size ≤ _; omega⟩
  obtain ⟨X, hX⟩ : ∃ X, X = termK k s t g := ⟨_, rfl⟩
  rw [← hX] at HPLN0 hkx hsz
  have HPLN := Lib.hid HPLN0
  have hzs : Small X := ⟨by omega, by omega, by omega⟩
  obtain ⟨lm, rm, hrm⟩ := read_some more.data.toList
  have HSI0 := fun w => signs_any more lm rm w hrm (by omega)
  unfold SignsRes at HSI0
  have HGD := Lib.hid (fun w => (HGF.out X hzs).2.1 w)
  have HKX := Lib.hid hkx
  unfold refT at HPLN
  clear hX a1 a2 a3 HPLN0 hkx
  rcases rm with _ | ⟨x, rm⟩
  · have HSI := Lib.hid HSI0
    rw [show ([] : List UInt8).isEmpty = true from rfl] at HSI
    cases hgx : G X with
    | false =>
      rw [hgx] at HGD
      clear HSI0 hgx hrm
      go_enter Tryd.func6, Tryd.ntmps6
      go_wp2_with fail
      rw [← HW1.out]
      refine (HA.out _ HB1.out).mono ?_
      rintro e w1 ⟨rfl, hb1⟩
      have HB2 := Lib.hid (HB1.out.trans (hb1.mono HB1.out.size))
      have HX2 := Lib.hid (blk_below HX1.out hb1)
      clear c0 c1 c2 c3 hb1
      obtain ⟨c0, c1, c2, c3, -⟩ := blk4 HX2.out
      go_wp2_with fail
      refine (HPLN.out _).mono ?_
      rintro e w3 ⟨rfl, hb3⟩
      have HB3 := Lib.hid (HB2.out.trans (hb3.mono HB2.out.size))
      obtain ⟨W4, hW4⟩ : ∃ W4, W4 = w3.alloc (.cells #[.int .i64 (kindV X), .string (text0 X), .string (text1 X), .string (text2 X)] 36) := ⟨_, rfl⟩
      have HB4 : Hid (Below w.heap.size w W4) := Lib.hid (by rw [hW4]; exact HB3.out.alloc HB3.out.size _)
      have HX4 : Hid (W4.heap[w3.heap.size]? = some (.cells #[.int .i64 (kindV X), .string (text0 X), .string (text1 X), .string (text2 X)] 36 (0, 0))) := Lib.hid (by rw [hW4]; exact blk_new w3 _ _)
      have HW4 := Lib.hid hW4
      clear c0 c1 c2 c3 hb3 hW4
      go_wp2_with fail
      rw [← HW4.out]
      refine (HSI.out _).mono ?_
      rintro e w5 ⟨ra, rc, rfl, -, hb5⟩
      have HB5 := Lib.hid (HB4.out.trans (hb5.mono HB4.out.size))
      have HX5 := Lib.hid (blk_below HX4.out hb5)
      obtain ⟨c0, c1, c2, c3, -⟩ := blk4 HX5.out
      clear hb5
      go_wp2_with fail
      refine (HGD.out _).mono ?_
      rintro e w6 ⟨rfl, hb6⟩
      go_wp2_with fail
      go_ret
      exact ⟨rfl, HB5.out.trans (hb6.mono HB5.out.size)⟩
    | true =>
      rw [hgx] at HGD
      have hgs := (good_signs HGF.out hzs hgx).2
      have hle := tmS_le hgs
      have hll := read_len hrm
      have e1 : more.data.toList.length = more.size := rfl
      obtain ⟨L, hL⟩ : ∃ L, L = tmS X ++ 32 :: lm := ⟨_, rfl⟩
      have hLl : L.length ≤ 10000 := by rw [hL, List.length_append, List.length_cons]; omega
      have hS := tm_read hgs
      have hsb := tB_size (tmS X)
      have HREAD := Lib.hid (read_back (G := G) (L := L) (T := lm) (i := 0) hgs hgx (by rw [hL]; rfl))
      have hRd : Read (((tBytes (tmS X)) ++ ⟨#[32]⟩) ++ more).data.toList L [] := by
        have h32 : Read (⟨#[32]⟩ : ByteArray).data.toList [32] [] := read_ascii _ _ (by decide) (by decide)
        have := read_join2 (read_join2 hS h32) hrm
        rw [List.append_assoc] at this
        rw [hL]
        exact this
      have HLEN := Lib.hid (fun w => len_any (tBytes (tmS X)) (tmS X) [] w hS (by omega))
      have HTXT := Lib.hid (fun w1 (hb : Below w.heap.size w w1) => text_good hgs hzs w1 (HEs.out.below HEs.out.lt hb))
      have HREAL := Lib.hid (fun w => real_any X HKX.out w)
      have HRE := Lib.hid (fun w => ref_any X HKX.out w)
      have QE := eq_refl_T2 X
      have hsl : Signs L := hRd.2.1
      have HSL := Lib.hid hsl
      obtain ⟨S, hSS⟩ : ∃ S, S = tBytes (tmS X) := ⟨_, rfl⟩
      obtain ⟨N, hN⟩ : ∃ N, N = (tmS X).length := ⟨_, rfl⟩
      rw [← hSS] at hRd HLEN HTXT hsb
      rw [← hN] at HREAD HLEN hsb hle
      rw [Nat.zero_add] at HREAD
      have s1 : (S ++ ⟨#[32]⟩ : ByteArray).size = S.size + 1 := by rw [ByteArray.size_append]; rfl
      have g1 : ∀ w : World, (Op.stringOp .add S ⟨#[32]⟩).run Tryd.prog w = .ok (.string (S ++ ⟨#[32]⟩)) w := add_str _ _ (by rw [show (⟨#[32]⟩ : ByteArray).size = 1 from rfl]; omega)
      have g2 : ∀ w : World, (Op.stringOp .add (S ++ ⟨#[32]⟩) more).run Tryd.prog w = .ok (.string ((S ++ ⟨#[32]⟩) ++ more)) w := add_str _ _ (by omega)
      have HNEW := Lib.hid (fun w => new_ok ((S ++ ⟨#[32]⟩) ++ more) L w hRd (by rw [ByteArray.size_append, s1]; omega))
      generalize ((S ++ ⟨#[32]⟩) ++ more : ByteArray) = Y2 at *
      generalize (S ++ ⟨#[32]⟩ : ByteArray) = Y1 at *
      unfold refT at HREAL HRE QE
      obtain ⟨TT, YY, eY⟩ := key_iface HKX.out
      have HEV := Lib.hid (fun (Xb : Nat) (w' : World) (h1 : w.heap.size ≤ Xb) (h2 : Below w.heap.size w w') => Env.of HEs.out HMs.out h1 h2)
      have HRDA := Lib.hid (fun (w2 : World) (Xb gg cap : Nat) (h1 : ScW L 0 Xb gg cap w2) (h2 : Env Xb w2) => read_any HGF.out h1 h2.1 h2.2.1 HSL.out (by omega) (fun Y j hf => (form_facts HSL.out (by omega) hf).2.2.1) (fun w' hk => (h2.sk hk).max))
      unfold ReadEnd at HRDA
      rw [HREAD.out] at HRDA
      dsimp only [Option.isSome] at HRDA
      rw [eY] at HRDA HREAL HTXT HRE
      clear HSI0 hgx hrm hgs hle hll e1 hL hLl hS hsb hRd hsl hSS hN s1 eY HREAD
      go_enter Tryd.func6, Tryd.ntmps6
      go_wp2_with fail
      rw [← HW1.out]
      refine (HA.out _ HB1.out).mono ?_
      rintro e w1 ⟨rfl, hb1⟩
      have HB2 := Lib.hid (HB1.out.trans (hb1.mono HB1.out.size))
      have HX2 := Lib.hid (blk_below HX1.out hb1)
      clear c0 c1 c2 c3 hb1
      obtain ⟨c0, c1, c2, c3, -⟩ := blk4 HX2.out
      go_wp2_with fail
      refine (HPLN.out _).mono ?_
      rintro e w3 ⟨rfl, hb3⟩
      have HB3 := Lib.hid (HB2.out.trans (hb3.mono HB2.out.size))
      obtain ⟨W4, hW4⟩ : ∃ W4, W4 = w3.alloc (.cells #[.int .i64 (kindV X), .string (text0 X), .string (text1 X), .string (text2 X)] 36) := ⟨_, rfl⟩
      have HB4 : Hid (Below w.heap.size w W4) := Lib.hid (by rw [hW4]; exact HB3.out.alloc HB3.out.size _)
      have HX4 : Hid (W4.heap[w3.heap.size]? = some (.cells #[.int .i64 (kindV X), .string (text0 X), .string (text1 X), .string (text2 X)] 36 (0, 0))) := Lib.hid (by rw [hW4]; exact blk_new w3 _ _)
      have HW4 := Lib.hid hW4
      clear c0 c1 c2 c3 hb3 hW4
      go_wp2_with fail
      rw [← HW4.out]
      refine (HSI.out _).mono ?_
      rintro e w5 ⟨ra, rc, rfl, -, hb5⟩
      have HB5 := Lib.hid (HB4.out.trans (hb5.mono HB4.out.size))
      have HX5 := Lib.hid (blk_below HX4.out hb5)
      obtain ⟨c0, c1, c2, c3, -⟩ := blk4 HX5.out
      clear hb5
      go_wp2_with fail
      refine (HGD.out _).mono ?_
      rintro e w6 ⟨rfl, hb6⟩
      have HB6 := Lib.hid (HB5.out.trans (hb6.mono HB5.out.size))
      have HX6 := Lib.hid (blk_below HX5.out hb6)
      clear c0 c1 c2 c3 hb6
      obtain ⟨c0, c1, c2, c3, -⟩ := blk4 HX6.out
      go_wp2_with fail
      refine (HREAL.out _).mono ?_
      rintro e w7 ⟨rfl, hb7⟩
      have HB7 := Lib.hid (HB6.out.trans (hb7.mono HB6.out.size))
      have HX7 := Lib.hid (blk_below HX6.out hb7)
      clear c0 c1 c2 c3 hb7
      go_wp2_with fail
      refine (HTXT.out _ HB7.out).mono ?_
      rintro e w8 ⟨rfl, hb8⟩
      have HB8 := Lib.hid (HB7.out.trans (hb8.mono HB7.out.size))
      have HX8 := Lib.hid (blk_below HX7.out hb8)
      clear hb8
      go_wp2_with fail
      refine (HNEW.out _).mono ?_
      rintro e w9 ⟨Xb, gg, cap, rfl, hs9, hX9, hg9, hb9⟩
      have HB9 := Lib.hid (HB8.out.trans (hb9.mono HB8.out.size))
      have HX9 := Lib.hid (blk_below HX8.out hb9)
      have HXb : Hid (w8.heap.size ≤ Xb) := Lib.hid hX9
      have HS9 := Lib.hid hs9
      have HE9 := Lib.hid (HEV.out Xb w9 (Nat.le_trans HB8.out.size hX9) HB9.out)
      clear hs9 hX9 hg9 hb9
      go_wp2_with fail
      refine (HRDA.out _ _ _ _ HS9.out HE9.out).mono ?_
      rintro e w10 ⟨rfl, hs10, hk10⟩
      have HS10 := Lib.hid hs10
      have HB10 := Lib.hid (HB9.out.trans (hk10.1.mono (Nat.le_trans HB8.out.size HXb.out)))
      have HX10 : Hid (w10.heap[w3.heap.size]? = some (.cells #[.int .i64 (kindV X), .string (text0 X), .string (text1 X), .string (text2 X)] 36 (0, 0))) := Lib.hid ((hk10.2 _ (lt_blk HX9.out) (by have h1 := lt_blk HX8.out; have h2 := HXb.out; omega)).trans HX9.out)
      clear hs10 hk10
      go_wp2_with fail
      refine wp_region_held_drew (S := (fun w' => w'.heap[w3.heap.size]? = some (.cells #[.int .i64 (kindV X), .string (text0 X), .string (text1 X), .string (text2 X)] 36 (0, 0)))) (by kernel_rfl) ?hSntt0 (fun hHeld => ?_)
      case hSntt0 => exact HX10.out
      refine wpAnyH_take (i := 0) (oi := ⟨some 79, _, _, _, _, _⟩) (v := ?vntt0) rfl (by kernel_rfl) (by kernel_rfl) (by kernel_rfl) (fun _ _ _ h => h) (Or.inl ⟨by kernel_rfl, ?yntt0⟩) (by assumption) ?rntt0
      case yntt0 =>
        intro w hSw
        try dsimp only at hSw
        obtain ⟨d0, d1, d2, d3, -⟩ := blk4 hSw
        first | (go_simp; done) | (go_simp; with_reducible rfl)
      try simp only [Act.put, List.setIfInBounds_toArray, List.set_cons_zero, List.set_cons_succ]
      refine wpAnyH_take (i := 1) (oi := ⟨some 80, _, _, _, _, _⟩) (v := ?vntt1) rfl (by kernel_rfl) (by kernel_rfl) (by kernel_rfl) (fun _ _ _ h => h) (Or.inl ⟨by kernel_rfl, ?yntt1⟩) (by assumption) ?rntt1
      case yntt1 =>
        intro w hSw
        try dsimp only at hSw
        obtain ⟨d0, d1, d2, d3, -⟩ := blk4 hSw
        first | (go_simp; done) | (go_simp; with_reducible rfl)
      try simp only [Act.put, List.setIfInBounds_toArray, List.set_cons_zero, List.set_cons_succ]
      refine wpAnyH_take (i := 2) (oi := ⟨some 81, _, _, _, _, _⟩) (v := ?vntt2) rfl (by kernel_rfl) (by kernel_rfl) (by kernel_rfl) (fun _ _ _ h => h) (Or.inl ⟨by kernel_rfl, ?yntt2⟩) (by assumption) ?rntt2
      case yntt2 =>
        intro w hSw
        try dsimp only at hSw
        obtain ⟨d0, d1, d2, d3, -⟩ := blk4 hSw
        first | (go_simp; done) | (go_simp; with_reducible rfl)
      try simp only [Act.put, List.setIfInBounds_toArray, List.set_cons_zero, List.set_cons_succ]
      refine wpAnyH_take (i := 3) (oi := ⟨some 82, _, _, _, _, _⟩) (v := ?vntt3) rfl (by kernel_rfl) (by kernel_rfl) (by kernel_rfl) (fun _ _ _ h => h) (Or.inl ⟨by kernel_rfl, ?yntt3⟩) (by assumption) ?rntt3
      case yntt3 =>
        intro w hSw
        try dsimp only at hSw
        obtain ⟨d0, d1, d2, d3, -⟩ := blk4 hSw
        first | (go_simp; done) | (go_simp; with_reducible rfl)
      try simp only [Act.put, List.setIfInBounds_toArray, List.set_cons_zero, List.set_cons_succ]
      refine wpAnyH_take (i := 5) (oi := ⟨some 84, _, _, _, _, _⟩) (v := ?vntt5) rfl (by kernel_rfl) (by kernel_rfl) (by kernel_rfl) (fun _ _ _ h => h) (Or.inl ⟨by kernel_rfl, ?yntt5⟩) (by assumption) ?rntt5
      case yntt5 =>
        intro w hSw
        try dsimp only at hSw
        obtain ⟨d0, d1, d2, d3, -⟩ := blk4 hSw
        first | (go_simp; done) | (go_simp; with_reducible rfl)
      try simp only [Act.put, List.setIfInBounds_toArray, List.set_cons_zero, List.set_cons_succ]
      refine wpAnyH_ready (rs := [4]) (by kernel_rfl) (by simp) ?_
      refine AllReadyH.cons (i := 4) (o := ⟨some 83, _, _, _, _, _⟩) rfl (fun K hK => ?_) AllReadyH.nil
      go_simp
      refine (HRE.out _).mono ?_
      rintro e w13 ⟨rfl, hb13⟩
      have HB13 := Lib.hid (HB10.out.drew.trans (hb13.mono (show w.heap.size ≤ w10.drew.heap.size from HB10.out.size)))
      have HS13 := Lib.hid ((HS10.out.keep (Below.refl _ _).drew).keep hb13)
      go_wp2_with fail
      refine hK.out _ _ ?_ (fun hHeld => ?_)
      · exact blk_below (by assumption) hb13
      clear hK K
      try simp only [Act.put, List.setIfInBounds_toArray, List.set_cons_zero, List.set_cons_succ]
      refine wpAnyH_take (i := 6) (oi := ⟨some 85, _, _, _, _, _⟩) (v := ?vntt6) rfl (by kernel_rfl) (by kernel_rfl) (by kernel_rfl) (fun _ _ _ h => h) (Or.inl ⟨by kernel_rfl, ?yntt6⟩) (by assumption) ?rntt6
      case yntt6 =>
        intro w hSw
        try dsimp only at hSw
        obtain ⟨d0, d1, d2, d3, -⟩ := blk4 hSw
        first | (go_simp; done) | (go_simp; with_reducible rfl)
      try simp only [Act.put, List.setIfInBounds_toArray, List.set_cons_zero, List.set_cons_succ]
      refine wpAnyH_take (i := 7) (oi := ⟨some 86, _, _, _, _, _⟩) (v := ?vntt7) rfl (by kernel_rfl) (by kernel_rfl) (by kernel_rfl) (fun _ _ _ h => h) (Or.inl ⟨by kernel_rfl, ?yntt7⟩) (by assumption) ?rntt7
      case yntt7 =>
        intro w hSw
        try dsimp only at hSw
        obtain ⟨d0, d1, d2, d3, -⟩ := blk4 hSw
        first | (go_simp; done) | (go_simp; with_reducible rfl)
      try simp only [Act.put, List.setIfInBounds_toArray, List.set_cons_zero, List.set_cons_succ]
      refine wpAnyH_take (i := 8) (oi := ⟨some 87, _, _, _, _, _⟩) (v := ?vntt8) rfl (by kernel_rfl) (by kernel_rfl) (by kernel_rfl) (fun _ _ _ h => h) (Or.inl ⟨by kernel_rfl, ?yntt8⟩) (by assumption) ?rntt8
      case yntt8 =>
        intro w hSw
        try dsimp only at hSw
        obtain ⟨d0, d1, d2, d3, -⟩ := blk4 hSw
        first | (go_simp; done) | (go_simp; with_reducible rfl)
      try simp only [Act.put, List.setIfInBounds_toArray, List.set_cons_zero, List.set_cons_succ]
      refine wpAnyH_take (i := 9) (oi := ⟨some 88, _, _, _, _, _⟩) (v := ?vntt9) rfl (by kernel_rfl) (by kernel_rfl) (by kernel_rfl) (fun _ _ _ h => h) (Or.inl ⟨by kernel_rfl, ?yntt9⟩) (by assumption) ?rntt9
      case yntt9 =>
        intro w hSw
        try dsimp only at hSw
        obtain ⟨d0, d1, d2, d3, -⟩ := blk4 hSw
        first | (go_simp; done) | (go_simp; with_reducible rfl)
      try simp only [Act.put, List.setIfInBounds_toArray, List.set_cons_zero, List.set_cons_succ]
      refine wpAnyH_take (i := 10) (oi := ⟨some 89, _, _, _, _, _⟩) (v := ?vntt10) rfl (by kernel_rfl) (by kernel_rfl) (by kernel_rfl) (fun _ _ _ h => h) (Or.inl ⟨by kernel_rfl, ?yntt10⟩) (by assumption) ?rntt10
      case yntt10 =>
        intro w hSw
        try dsimp only at hSw
        obtain ⟨d0, d1, d2, d3, -⟩ := blk4 hSw
        first | (go_simp; done) | (go_simp; with_reducible rfl)
      try simp only [Act.put, List.setIfInBounds_toArray, List.set_cons_zero, List.set_cons_succ]
      refine wpAnyH_ready (rs := [11]) (by kernel_rfl) (by simp) ?_
      refine AllReadyH.cons (i := 11) (o := ⟨some 90, _, _, _, _, _⟩) rfl (fun K hK => ?_) AllReadyH.nil
      go_simp
      refine (HLEN.out _).mono ?_
      rintro e w14 ⟨rfl, hb14⟩
      have HB14 := Lib.hid (HB13.out.trans (hb14.mono HB13.out.size))
      have HS14 := Lib.hid (HS13.out.keep hb14)
      go_wp2_with fail
      refine hK.out _ _ ?_ (fun hHeld => ?_)
      · exact blk_below (by assumption) hb14
      clear hK K
      try simp only [Act.put, List.setIfInBounds_toArray, List.set_cons_zero, List.set_cons_succ]
      refine wpAnyH_take (i := 12) (oi := ⟨some 91, _, _, _, _, _⟩) (v := ?vntt12) rfl (by kernel_rfl) (by kernel_rfl) (by kernel_rfl) (fun _ _ _ h => h) (Or.inl ⟨by kernel_rfl, ?yntt12⟩) (by assumption) ?rntt12
      case yntt12 =>
        intro w hSw
        try dsimp only at hSw
        obtain ⟨d0, d1, d2, d3, -⟩ := blk4 hSw
        first | (go_simp; done) | (go_simp; with_reducible rfl)
      try simp only [Act.put, List.setIfInBounds_toArray, List.set_cons_zero, List.set_cons_succ]
      refine wpAnyH_take (i := 13) (oi := ⟨some 92, _, _, _, _, _⟩) (v := ?vntt13) rfl (by kernel_rfl) (by kernel_rfl) (by kernel_rfl) (fun _ _ _ h => h) (Or.inl ⟨by kernel_rfl, ?yntt13⟩) (by assumption) ?rntt13
      case yntt13 =>
        intro w hSw
        try dsimp only at hSw
        obtain ⟨d0, d1, d2, d3, -⟩ := blk4 hSw
        first | (go_simp; done) | (go_simp; with_reducible rfl)
      try simp only [Act.put, List.setIfInBounds_toArray, List.set_cons_zero, List.set_cons_succ]
      refine wpAnyH_take (i := 14) (oi := ⟨some 93, _, _, _, _, _⟩) (v := ?vntt14) rfl (by kernel_rfl) (by kernel_rfl) (by kernel_rfl) (fun _ _ _ h => h) (Or.inl ⟨by kernel_rfl, ?yntt14⟩) (by assumption) ?rntt14
      case yntt14 =>
        intro w hSw
        try dsimp only at hSw
        obtain ⟨d0, d1, d2, d3, -⟩ := blk4 hSw
        first | (go_simp; done) | (go_simp; with_reducible rfl)
      try simp only [Act.put, List.setIfInBounds_toArray, List.set_cons_zero, List.set_cons_succ]
      refine wpAnyH_take (i := 15) (oi := ⟨some 94, _, _, _, _, _⟩) (v := ?vntt15) rfl (by kernel_rfl) (by kernel_rfl) (by kernel_rfl) (fun _ _ _ h => h) (Or.inl ⟨by kernel_rfl, ?yntt15⟩) (by assumption) ?rntt15
      case yntt15 =>
        intro w hSw
        try dsimp only at hSw
        obtain ⟨d0, d1, d2, d3, -⟩ := blk4 hSw
        first | (go_simp; done) | (go_simp; with_reducible rfl)
      try simp only [Act.put, List.setIfInBounds_toArray, List.set_cons_zero, List.set_cons_succ]
      refine wpAnyH_take (i := 17) (oi := ⟨some 96, _, _, _, _, _⟩) (v := ?vntt17) rfl (by kernel_rfl) (by kernel_rfl) (by kernel_rfl) (fun _ _ _ h => h) (Or.inl ⟨by kernel_rfl, ?yntt17⟩) (by assumption) ?rntt17
      case yntt17 =>
        intro w hSw
        try dsimp only at hSw
        obtain ⟨d0, d1, d2, d3, -⟩ := blk4 hSw
        first | (go_simp; done) | (go_simp; with_reducible rfl)
      try simp only [Act.put, List.setIfInBounds_toArray, List.set_cons_zero, List.set_cons_succ]
      refine wpAnyH_ready (rs := [16]) (by kernel_rfl) (by simp) ?_
      refine AllReadyH.cons (i := 16) (o := ⟨some 95, _, _, _, _, _⟩) rfl (fun K hK => ?_) AllReadyH.nil
      go_simp
      refine (place_any L _ Xb gg cap _ HS14.out).mono ?_
      rintro e w15 ⟨rfl, rfl⟩
      go_wp2_with fail
      refine hK.out _ _ ?_ (fun hHeld => ?_)
      · exact (by assumption)
      clear hK K
      try simp only [Act.put, List.setIfInBounds_toArray, List.set_cons_zero, List.set_cons_succ]
      refine wpAnyH_take (i := 18) (oi := ⟨some 97, _, _, _, _, _⟩) (v := ?vntt18) rfl (by kernel_rfl) (by kernel_rfl) (by kernel_rfl) (fun _ _ _ h => h) (Or.inl ⟨by kernel_rfl, ?yntt18⟩) (by assumption) ?rntt18
      case yntt18 =>
        intro w hSw
        try dsimp only at hSw
        obtain ⟨d0, d1, d2, d3, -⟩ := blk4 hSw
        first | (go_simp; done) | (go_simp; with_reducible rfl)
      try simp only [Act.put, List.setIfInBounds_toArray, List.set_cons_zero, List.set_cons_succ]
      refine wpAnyH_take (i := 19) (oi := ⟨some 98, _, _, _, _, _⟩) (v := ?vntt19) rfl (by kernel_rfl) (by kernel_rfl) (by kernel_rfl) (fun _ _ _ h => h) (Or.inl ⟨by kernel_rfl, ?yntt19⟩) (by assumption) ?rntt19
      case yntt19 =>
        intro w hSw
        try dsimp only at hSw
        obtain ⟨d0, d1, d2, d3, -⟩ := blk4 hSw
        first | (go_simp; done) | (go_simp; with_reducible rfl)
      try simp only [Act.put, List.setIfInBounds_toArray, List.set_cons_zero, List.set_cons_succ]
      refine wpAnyH_take (i := 20) (oi := ⟨some 4, _, _, _, _, _⟩) (v := ?vntt20) rfl (by kernel_rfl) (by kernel_rfl) (by kernel_rfl) (fun _ _ _ h => h) (Or.inl ⟨by kernel_rfl, ?yntt20⟩) (by assumption) ?rntt20
      case yntt20 =>
        intro w hSw
        try dsimp only at hSw
        obtain ⟨d0, d1, d2, d3, -⟩ := blk4 hSw
        first | (go_simp; done) | (go_simp; with_reducible rfl)
      try simp only [Act.put, List.setIfInBounds_toArray, List.set_cons_zero, List.set_cons_succ]
      refine wpAnyH_done (by kernel_rfl) ?_ _
      go_wp2_with fail
      go_ret
      exact ⟨rfl, HB14.out⟩
  · have HSI := Lib.hid HSI0
    rw [show (x :: rm).isEmpty = false from rfl] at HSI
    clear HSI0 hrm
    go_enter Tryd.func6, Tryd.ntmps6
    go_wp2_with fail
    rw [← HW1.out]
    refine (HA.out _ HB1.out).mono ?_
    rintro e w1 ⟨rfl, hb1⟩
    have HB2 := Lib.hid (HB1.out.trans (hb1.mono HB1.out.size))
    have HX2 := Lib.hid (blk_below HX1.out hb1)
    clear c0 c1 c2 c3 hb1
    obtain ⟨c0, c1, c2, c3, -⟩ := blk4 HX2.out
    go_wp2_with fail
    refine (HPLN.out _).mono ?_
    rintro e w3 ⟨rfl, hb3⟩
    have HB3 := Lib.hid (HB2.out.trans (hb3.mono HB2.out.size))
    obtain ⟨W4, hW4⟩ : ∃ W4, W4 = w3.alloc (.cells #[.int .i64 (kindV X), .string (text0 X), .string (text1 X), .string (text2 X)] 36) := ⟨_, rfl⟩
    have HB4 : Hid (Below w.heap.size w W4) := Lib.hid (by rw [hW4]; exact HB3.out.alloc HB3.out.size _)
    have HX4 : Hid (W4.heap[w3.heap.size]? = some (.cells #[.int .i64 (kindV X), .string (text0 X), .string (text1 X), .string (text2 X)] 36 (0, 0))) := Lib.hid (by rw [hW4]; exact blk_new w3 _ _)
    have HW4 := Lib.hid hW4
    clear c0 c1 c2 c3 hb3 hW4
    go_wp2_with fail
    rw [← HW4.out]
    refine (HSI.out _).mono ?_
    rintro e w5 ⟨ra, rc, rfl, -, hb5⟩
    have HB5 := Lib.hid (HB4.out.trans (hb5.mono HB4.out.size))
    have HX5 := Lib.hid (blk_below HX4.out hb5)
    obtain ⟨c0, c1, c2, c3, -⟩ := blk4 HX5.out
    clear hb5
    go_wp2_with fail
    go_ret
    exact ⟨rfl, HB5.out⟩
end Go.Proofs.YtbchkhjkajagfaaDoor
