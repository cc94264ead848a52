/- DictCuts, walked. -/
import Derived.Test.YtghimladdioajaaDcTwice
namespace Go.Proofs.Ytghimladdioajaa
open Go Go.RowKit
set_option linter.unusedVariables false
set_option linter.unusedSimpArgs false
def intC (n : Int) : List Value := [.int .i64 n]
abbrev IntRow (w : World) (base : Nat) (V : Value) (ns : List Int) : Prop := RowOf 3 1 intC w base V ns
theorem intC_len (n : Int) : (intC n).length = 1 := rfl
theorem eltI : Elt Try.prog 43 3 1 8 intC where
  ht := Try.underlying43
  hi := elt_info (z := .int .i64 0) (by kernel_rfl) rfl
  len := intC_len
  one := by
    intro X u hu
    simp only [intC, List.mem_cons, List.not_mem_nil, or_false] at hu
    subst hu
    rfl
  pos := by decide
  small := by decide
theorem int_at {w : World} {base : Nat} {V : Value} {ns : List Int} (h : IntRow w base V ns) (j : Nat) (hj : j < ns.length) :
    ∃ g cap, V = .slice (some ⟨g, 0, none⟩) ns.length cap ∧ base ≤ g ∧ g < w.heap.size ∧ w.cell? ⟨g, j, none⟩ = some (.int .i64 (ns[j]'hj)) := by
  obtain ⟨g, cap, hv, hb, hg, hc⟩ := h.at_ intC_len j hj
  have := hc 0 _ (by omega) rfl
  exact ⟨g, cap, hv, hb, hg, by simpa using this⟩
/-- the numbers that terms get, one after the other -/
def numAt (G : Tm → Bool) (room : Int) (S xs : List Tm) (i : Nat) : Int := (putT G room (putAll G room S (xs.take i)) (xs.getD i .none)).2.1
def numsTo (G : Tm → Bool) (room : Int) (xs : List Tm) (i : Nat) : List Int := (List.range i).map (numAt G room [] xs)
theorem take_pre {xs T : List Tm} {G : Tm → Bool} {room : Int} (hT : T = putAll G room [] xs) (i : Nat) : ∃ us, T = putAll G room [] (xs.take i) ++ us := by
  obtain ⟨us, hu⟩ := putAll_pre G room (xs.drop i) (putAll G room [] (xs.take i))
  refine ⟨us, ?_⟩
  rw [hT, ← hu]
  unfold putAll
  rw [← List.foldl_append, List.take_append_drop]
theorem again {xs T : List Tm} {G : Tm → Bool} {room : Int} (hT : T = putAll G room [] xs) (hk : ∀ x ∈ xs, KeyT x) (hr : (xs.length : Int) ≤ room) (left : Nat) : ∀ i : Nat, i ≤ xs.length →
    putAll G room (T.take left) (xs.take i) = T.take (max left (putAll G room [] (xs.take i)).length) ∧ ∀ j, j < i → numAt G room (T.take left) xs j = numAt G room [] xs j
  | 0, _ => by simp [putAll]
  | i + 1, hi => by
    obtain ⟨ih, ihn⟩ := again hT hk hr left i (by omega)
    have hil : i < xs.length := by omega
    have hx : xs.take (i + 1) = xs.take i ++ [xs[i]] := List.take_succ_eq_append_getElem hil
    have hgd : xs.getD i .none = xs[i] := by simp [hil]
    have hkx := hk _ (List.getElem_mem hil)
    obtain ⟨us, hus⟩ := take_pre hT i
    obtain ⟨us', hus'⟩ := take_pre hT (i + 1)
    have hlen := putAll_len G room (xs.take i) []
    rw [List.length_take, List.length_nil] at hlen
    rw [hx, putAll_snoc] at hus' 
    have main : putAll G room (T.take left) (xs.take (i + 1)) = T.take (max left (putAll G room [] (xs.take (i + 1))).length) ∧ numAt G room (T.take left) xs i = numAt G room [] xs i := by
      unfold numAt
      rw [hx, putAll_snoc, putAll_snoc, ih, hgd]
      generalize putAll G room [] (xs.take i) = P at *
      generalize xs[i] = x at *
      have hPT : ∀ m, P.length ≤ m → T.take m = P ++ us.take (m - P.length) := by
        intro m hm
        rw [hus, List.take_append, List.take_of_length_le hm]
      unfold putT at hus' ⊢
      cases hg : G x with
      | false => simp
      | true =>
        rw [hg] at hus'
        simp only [Bool.true_eq_false, if_false] at hus' ⊢
        cases hi2 : idxT x P with
        | some j =>
          have := idx_append hi2 (us.take (max left P.length - P.length))
          rw [← hPT _ (by omega)] at this
          rw [this]
          simp
        | none =>
          have hfull : ¬ room ≤ (P.length : Int) := by omega
          rw [hi2] at hus'
          simp only [if_neg hfull] at hus' ⊢
          by_cases hl : P.length < left
          · have h1 : T.take left = (P ++ [x]) ++ us'.take (left - (P ++ [x]).length) := by
              rw [hus', List.take_append, List.take_of_length_le (by simp; omega)]
            have h2 := idx_append (idx_last hkx hi2) (us'.take (left - (P ++ [x]).length))
            rw [← h1] at h2
            rw [Nat.max_eq_left (by omega), h2]
            simp only [List.length_append, List.length_singleton, and_true]
            rw [Nat.max_eq_left (by omega)]
          · have h1 : T.take P.length = P := by rw [hPT _ (Nat.le_refl _)]; simp
            rw [Nat.max_eq_right (by omega), h1, hi2]
            simp only [if_neg hfull, List.length_append, List.length_singleton, and_true]
            rw [Nat.max_eq_right (by omega), hus']
            rw [List.take_left' (by simp)]
    refine ⟨main.1, fun j hj => ?_⟩
    by_cases hji : j = i
    · subst hji
      exact main.2
    · exact ihn j (by omega)
/-- a dictionary alone, as a law has it -/
def One (G : Tm → Bool) (w0 : World) (p m : Nat) (room : Int) (ts : List Tm) (wr : World) : Prop :=
  DcAt w0.heap.size p m ts room wr ∧ Fine G ts ∧ Dist ts ∧ Below w0.heap.size w0 wr
theorem One.below {G : Tm → Bool} {w0 w w' : World} {p m : Nat} {room : Int} {ts : List Tm} (h : One G w0 p m room ts w) (hb : Below w.heap.size w w') : One G w0 p m room ts w' :=
  ⟨h.1.keep hb, h.2.1, h.2.2.1, h.2.2.2.trans (hb.mono h.2.2.2.size)⟩
theorem One.alloc {G : Tm → Bool} {w0 w : World} {p m : Nat} {room : Int} {ts : List Tm} (h : One G w0 p m room ts w) (o : Obj) : One G w0 p m room ts (w.alloc o) := h.below ((Below.refl _ _).alloc (Nat.le_refl _) o)
theorem One.len {G : Tm → Bool} {w0 w : World} {p m : Nat} {room : Int} {ts : List Tm} (h : One G w0 p m room ts w) : ts.length ≤ 65536 := by
  obtain ⟨_, _, _, _, _, _, _, _, _, _, h8⟩ := h.1
  exact h8
theorem One.grown {G : Tm → Bool} {w0 w w' : World} {p m : Nat} {room : Int} {ts : List Tm} {V : Value} {base : Nat} {ns : List Int} (h : One G w0 p m room ts w) (hr : IntRow w base V ns) (hbase : w0.heap.size ≤ base) (hg : w.grownBy w' V.ownBlock) : One G w0 p m room ts w' := by
  obtain ⟨⟨v0, es, clock, e1, e2, e3, e4, e5⟩, h2, h3, h4⟩ := h
  have far : ∀ (k : Nat) (o : Obj), w.heap[k]? = some o → (∀ c, o ≠ .cells c 3 (0, 0)) → w'.heap[k]? = some o := by
    intro k o hk ho
    rw [hg.block k (lt_heap hk) ?_]
    · exact hk
    · intro e
      rcases row_block hr with ⟨rfl, _⟩ | ⟨g, cap, cur, rfl, hgb⟩
      · simp [Value.ownBlock] at e
      · simp only [Value.ownBlock, Option.some.injEq] at e
        subst e
        rw [hgb] at hk
        exact ho _ (Option.some.inj hk).symm
  refine ⟨⟨v0, es, clock, far p _ e1 (fun c e => ?_), far m _ e2 (fun c e => by cases e), e3, ?_, e5⟩, h2, h3, h4.grown hg h4.size ?_⟩
  · injection e with _ e _
    exact absurd e (by decide)
  · rcases e4 with e4 | ⟨g, cap, cur, rfl, q1, q2, q3⟩
    · exact .inl e4
    · exact .inr ⟨g, cap, cur, rfl, q1, far g _ q2 (fun c e => by injection e with _ e _; exact absurd e (by decide)), q3⟩
  · intro k hk
    have := World.ownsRow.lt hr k hk
    omega
set_option maxRecDepth 100000 in
set_option maxHeartbeats 6400000 in
theorem cuts_any (a : Option Addr) (rs : List Raw) (cap : Nat) (at_ : Int) (w : World) (hm : MaxV w) (h : RawsAt w a rs) (hl : rs.length ≤ 9223372036854775807) (hat : -9223372036854775808 ≤ at_ ∧ at_ ≤ 9223372036854775807) :
    Calls Try.prog 4 #[.slice a rs.length cap, .int .i64 at_] w fun e w' => e = .returned (.bool true) ∧ Below w.heap.size w w' := by
  obtain ⟨G, hG⟩ := good_fn
  have HA := Lib.hid (awake5_any w hm)
  have HA2 := Lib.hid (fun w1 (hb : Below w.heap.size w w1) => awake5_any w1 (hm.below hb))
  have HM := Lib.hid hm
  have HR := Lib.hid h
  have HG := Lib.hid hG
  clear hm h hG
  by_cases hlen : (40 : Int) < rs.length
  · go_enter Try.func4, Try.ntmps4
    go_wp2_with fail
    refine HA.out.mono ?_
    rintro e w1 ⟨rfl, hb1⟩
    go_wp2_with fail
    refine (HA2.out _ hb1).mono ?_
    rintro e w2 ⟨rfl, hb2⟩
    go_wp2_with fail
    go_ret
    exact ⟨rfl, hb1.trans (hb2.mono hb1.size)⟩
  have hl40 : rs.length ≤ 40 := by omega
  have t0 : decide ((40 : Int) < rs.length) = false := decide_eq_false hlen
  obtain ⟨xs, hxs⟩ : ∃ xs, xs = rs.map rawK := ⟨_, rfl⟩
  have HX := Lib.hid hxs
  obtain ⟨T1, hT1⟩ : ∃ T1, T1 = putAll G 50 [] xs := ⟨_, rfl⟩
  have HT1 := Lib.hid hT1
  have HK : Hid (∀ x ∈ xs, KeyT x) := Lib.hid (by
    intro y hy
    rw [hxs] at hy
    obtain ⟨q, _, rfl⟩ := List.mem_map.1 hy
    exact termK_key _ _ _ _)
  have HXL : Hid (xs.length = rs.length) := Lib.hid (by rw [hxs]; simp)
  clear hxs hT1 hlen hl
  go_enter Try.func4, Try.ntmps4
  go_wp2_with fail
  refine HA.out.mono ?_
  rintro e w1 ⟨rfl, hb1⟩
  go_wp2_with fail
  refine (new_yes 50 w1 (by omega) w.heap.size hb1.size).mono ?_
  rintro e w2 ⟨p, m, rfl, hd2, hb2, hp2, hm2⟩
  have HB2 : Hid (One G w p m 50 [] w2) := Lib.hid ⟨hd2, fun x hx => by simp at hx, fun i j hj => by simp at hj, hb1.trans (hb2.mono hb1.size)⟩
  clear hd2 hb2 hp2 hm2 hb1
  go_wp2_with fail
  go_loopw [7, 8] (fun v i wr => ∃ kk : Nat, kk ≤ 2 ∧ i = .int .i64 kk ∧ Hid ((kk = 0 → One G w p m 50 [] wr ∧ IntRow wr w.heap.size v []) ∧ (kk = 1 → ∃ left, One G w p m 50 (T1.take left) wr ∧ IntRow wr w.heap.size v (numsTo G 50 xs xs.length)) ∧ Below w.heap.size w wr)) (fun _ i _ => 2 - (intOf i).toNat)
  case atStart => exact ⟨0, by omega, rfl, Lib.hid ⟨fun _ => ⟨HB2.out, RowOf.nil _ _⟩, fun h => by omega, HB2.out.2.2.2⟩⟩
  case round =>
    obtain ⟨kk, hkk, rfl, hb⟩ := hrel
    obtain ⟨wo, hwo⟩ : ∃ wo : World, wo = wr := ⟨_, rfl⟩
    subst hwo
    rcases (by omega : kk = 0 ∨ kk = 1 ∨ kk = 2) with rfl | rfl | rfl
    · rw [show ((0 : Nat) : Int) = 0 from rfl]
      obtain ⟨hB0, hW0⟩ := hb.out.1 rfl
      have HI := Lib.hid (⟨hB0, hW0⟩ : _ ∧ _)
      clear hB0 hW0 hb
      go_wp2_with fail
      go_loopw [7, 33] (fun v i wr => ∃ j : Nat, j ≤ rs.length ∧ i = .int .i64 j ∧ Hid (One G w p m 50 (putAll G 50 [] (xs.take j)) wr ∧ IntRow wr w.heap.size v (numsTo G 50 xs j))) (fun _ i _ => rs.length - (intOf i).toNat)
      case atStart => exact ⟨0, by omega, rfl, HI⟩
      case round =>
        obtain ⟨j, hj, rfl, hc⟩ := hrel
        by_cases hlt : j < rs.length
        · obtain ⟨b, off, rfl, r0, r1, r2, r3, rin⟩ := (HR.out.below hc.out.1.2.2.2).at_ j hlt
          have hx : xs.take (j + 1) = xs.take j ++ [rawK (rs[j]'hlt)] := by
            rw [HX.out, List.take_succ_eq_append_getElem (by simpa using hlt), List.getElem_map]
          have hgd : xs.getD j .none = rawK (rs[j]'hlt) := by rw [HX.out]; simp [hlt]
          have HXX := Lib.hid (⟨hx, hgd⟩ : _ ∧ _)
          obtain ⟨hB, hW⟩ := hc.out
          have HB := Lib.hid hB
          have HW := Lib.hid hW
          obtain ⟨r, hr⟩ : ∃ r, r = rs[j]'hlt := ⟨_, rfl⟩
          rw [← hr] at r0 r1 r2 r3 rin HXX
          obtain ⟨ts, hts⟩ : ∃ ts, ts = putAll G 50 [] (xs.take j) := ⟨_, rfl⟩
          rw [← hts] at HB
          have HTS := Lib.hid hts
          have b1 : (0 : Int) ≤ (j : Int) := by omega
          have b2 : (j : Int) < (rs.length : Int) := by omega
          obtain ⟨va, vc, rfl⟩ := hW.form
          clear hx hgd hr hts hB hW hc rin
          go_wp2_with fail
          refine (short5_any _ _ _ _ _).mono ?_
          rintro e w3 ⟨rfl, hb3⟩
          have HB3 := Lib.hid ((HB.out.alloc _).below hb3)
          have HW3 := Lib.hid ((HW.out.below ((Below.refl _ _).alloc (Nat.le_refl _) _)).below hb3)
          have HC3 := Lib.hid (box_below (box_new wr _ _) hb3)
          clear hb3 r0 r1 r2 r3
          cases hsh : short5 r.x r.t r.l with
          | false =>
            clear hsh
            go_wp2_with fail
            go_ret
            exact ⟨rfl, HB3.out.2.2.2⟩
          | true =>
            obtain ⟨X, hX⟩ : ∃ X, X = rawK r := ⟨_, rfl⟩
            have hz : Small X := by rw [hX]; exact rawK_small hsh
            have hx : KeyT X := by rw [hX]; exact termK_key _ _ _ _
            rw [← hX] at HXX
            have HPL := Lib.hid (fun w => plain4_any r.k r.x r.t r.l w)
            change Hid (∀ w, Calls _ _ _ w fun e w' => e = .returned (refT (rawK r)) ∧ _) at HPL
            rw [← hX] at HPL
            obtain ⟨ts', N, C, hput⟩ : ∃ ts' N C, putT G 50 ts X = (ts', N, C) := ⟨_, _, _, rfl⟩
            have HPU := Lib.hid (fun w1 (hm : MaxV w1) (hd : DcAt w.heap.size p m ts 50 w1) (hs : w.heap.size ≤ w1.heap.size) => put_any HG.out X hz hm hd HB3.out.2.2.1 (by omega) hs)
            have HRE := Lib.hid (fun w => real_any X hx w)
            rw [hput] at HPU
            dsimp only at HPU
            have hf' : Fine G ts' := by have := fine_put (room := 50) HB3.out.2.1 hx hz; rw [hput] at this; exact this
            have HP := Lib.hid (⟨hput, hf'⟩ : _ ∧ _)
            obtain ⟨c0, c1, c2, c3⟩ := cells4 HC3.out
            clear hsh hz hx hput hf'
            unfold refT at HPL HRE
            generalize tmV X = xv at *
            generalize kindV X = k0 at *
            generalize text0 X = s0 at *
            generalize text1 X = s1 at *
            generalize text2 X = s2 at *
            go_wp2_with fail
            refine (HPL.out _).mono ?_
            rintro e w4 ⟨rfl, hb4⟩
            have HB4 := Lib.hid (HB3.out.below hb4)
            have HW4 := Lib.hid (HW3.out.below hb4)
            clear hb4 c0 c1 c2 c3
            go_wp2_with fail
            refine (HRE.out _).mono ?_
            rintro e w6 ⟨rfl, hb6⟩
            have HB6 := Lib.hid (HB4.out.below hb6)
            have HW6 := Lib.hid (HW4.out.below hb6)
            clear hb6
            go_wp2_with fail
            refine (HPU.out w6 (HM.out.below HB6.out.2.2.2) HB6.out.1 HB6.out.2.2.2.size).mono ?_
            rintro e w7 ⟨rfl, hd7, hk7, hdist7⟩
            have HW7 := Lib.hid (HB6.out.1.row hk7 HW6.out (by decide) (by decide))
            have HB7 : Hid (One G w p m 50 ts' w7) := Lib.hid ⟨hd7, HP.out.2, hdist7, HB6.out.2.2.2.trans hk7.1⟩
            clear hd7 hk7 hdist7
            go_wp2_with (at_builtin; refine wpList_append_rows eltI _ rfl (.tmp 51) (.tmp 53) rfl w.heap.size w7.heap.size _ _ (numsTo G 50 xs j) [N] rfl rfl (HW7.out.below ((Below.refl _ _).alloc (Nat.le_refl _) (.cells #[.int .i64 N] 3))) (show IntRow (w7.alloc (.cells #[.int .i64 N] 3)) w7.heap.size (.slice (some ⟨w7.heap.size, 0, none⟩) 1 1) [N] from RowOf.new intC_len w7 [N] (by simp)) (by simp [numsTo]; omega) (by have := HB7.out.2.2.2.size; simp; omega) ?_; intro V8 w8 r8 q8 at8)
            have hW7 := HW7.out.below ((Below.refl _ _).alloc (Nat.le_refl _) (.cells #[.int .i64 N] 3))
            have hB8 := (HB7.out.alloc (.cells #[.int .i64 N] 3)).grown hW7 (Nat.le_refl _) q8
            refine ⟨⟨j + 1, by omega, by push_cast; rfl, Lib.hid ⟨?_, ?_⟩⟩, by simp only [intOf]; omega⟩
            · rw [HXX.out.1, putAll_snoc, ← HTS.out, HP.out.1]
              exact hB8
            · have hn : numsTo G 50 xs (j + 1) = numsTo G 50 xs j ++ [N] := by
                unfold numsTo
                rw [List.range_succ, List.map_append]
                congr 1
                show [numAt G 50 [] xs j] = [N]
                unfold numAt
                rw [HXX.out.2, ← HTS.out, HP.out.1]
              rw [hn]
              exact r8
        · have t3 : decide (j < rs.length) = false := decide_eq_false hlt
          obtain rfl : j = rs.length := by omega
          have hall : xs.take rs.length = xs := by rw [HX.out]; exact List.take_of_length_le (by simp)
          obtain ⟨hB, hW⟩ := hc.out
          rw [hall, ← HT1.out] at hB
          obtain ⟨va, vc, rfl⟩ := hW.form
          have HB := Lib.hid hB
          have HW := Lib.hid hW
          have HLE := Lib.hid (len_any hB.1)
          have HCU := Lib.hid (cut_any at_ hB.1 hB.2.2.1 hB.2.2.2.size)
          have hlf : ((leftT at_ T1 : Nat) : Int) = min (max at_ 0) (T1.length : Int) := by unfold leftT; omega
          obtain ⟨lf, hlf2⟩ : ∃ lf, lf = leftT at_ T1 := ⟨_, rfl⟩
          rw [← hlf2] at hlf HCU
          have hlft : lf ≤ T1.length := by omega
          have hmin : min (max at_ 0) (T1.length : Int) = (lf : Int) := hlf.symm
          have hl65 := hB.len
          clear hB hW hc hall hlf hlf2
          go_wp2_with fail
          refine HLE.out.mono ?_
          rintro e w3 ⟨rfl, rfl⟩
          go_wp2_with fail
          refine HCU.out.mono ?_
          rintro e w4 ⟨rfl, hd4, hk4, hdist4⟩
          have hW4 := HB.out.1.row hk4 HW.out (by decide) (by decide)
          have hlen4 : (T1.take lf).length = lf := by rw [List.length_take]; omega
          have HL4 := Lib.hid (len_any hd4)
          rw [hlen4] at HL4
          have hB4 : One G w p m 50 (T1.take lf) w4 := ⟨hd4, fun x hx => HB.out.2.1 x (List.mem_of_mem_take hx), hdist4, HB.out.2.2.2.trans hk4.1⟩
          have H4 := Lib.hid (⟨hB4, hW4⟩ : _ ∧ _)
          clear hd4 hk4 hdist4 hW4 hB4 hlen4
          go_wp2_with fail
          refine HL4.out.mono ?_
          rintro e w5 ⟨rfl, rfl⟩
          go_wp2_with fail
          exact ⟨⟨1, by omega, rfl, Lib.hid ⟨fun h => by omega, fun _ => ⟨lf, H4.out.1, by rw [HXL.out]; exact H4.out.2⟩, H4.out.1.2.2.2⟩⟩, by simp [intOf]⟩
    · rw [show ((1 : Nat) : Int) = 1 from rfl]
      obtain ⟨left, hB0, hW0⟩ := hb.out.2.1 rfl
      have HI := Lib.hid (⟨hB0, hW0⟩ : _ ∧ _)
      obtain ⟨va, vc, rfl⟩ := hW0.form
      clear hB0 hW0 hb
      have hnl : (numsTo G 50 xs xs.length).length = rs.length := by unfold numsTo; rw [List.length_map, List.length_range]; exact HXL.out
      rw [hnl] at HI ⊢
      have HNL := Lib.hid hnl
      clear hnl
      go_wp2_with fail
      go_loopw [7, 33] (fun v i wr => ∃ j : Nat, j ≤ rs.length ∧ i = .int .i64 j ∧ v = .slice va rs.length vc ∧ Hid (One G w p m 50 (putAll G 50 (T1.take left) (xs.take j)) wr ∧ IntRow wr w.heap.size (.slice va rs.length vc) (numsTo G 50 xs xs.length))) (fun _ i _ => rs.length - (intOf i).toNat)
      case atStart => exact ⟨0, by omega, rfl, rfl, HI⟩
      case round =>
        obtain ⟨j, hj, rfl, rfl, hc⟩ := hrel
        by_cases hlt : j < rs.length
        · obtain ⟨b, off, rfl, r0, r1, r2, r3, rin⟩ := (HR.out.below hc.out.1.2.2.2).at_ j hlt
          have hx : xs.take (j + 1) = xs.take j ++ [rawK (rs[j]'hlt)] := by
            rw [HX.out, List.take_succ_eq_append_getElem (by simpa using hlt), List.getElem_map]
          have hgd : xs.getD j .none = rawK (rs[j]'hlt) := by rw [HX.out]; simp [hlt]
          have HXX := Lib.hid (⟨hx, hgd⟩ : _ ∧ _)
          obtain ⟨hB, hW⟩ := hc.out
          have HB := Lib.hid hB
          have HW := Lib.hid hW
          obtain ⟨r, hr⟩ : ∃ r, r = rs[j]'hlt := ⟨_, rfl⟩
          rw [← hr] at r0 r1 r2 r3 rin HXX
          obtain ⟨ts, hts⟩ : ∃ ts, ts = putAll G 50 (T1.take left) (xs.take j) := ⟨_, rfl⟩
          rw [← hts] at HB
          have HTS := Lib.hid hts
          have b1 : (0 : Int) ≤ (j : Int) := by omega
          have b2 : (j : Int) < (rs.length : Int) := by omega
          clear hx hgd hr hts hB hW hc rin
          go_wp2_with fail
          refine (short5_any _ _ _ _ _).mono ?_
          rintro e w3 ⟨rfl, hb3⟩
          have HB3 := Lib.hid ((HB.out.alloc _).below hb3)
          have HW3 := Lib.hid ((HW.out.below ((Below.refl _ _).alloc (Nat.le_refl _) _)).below hb3)
          have HC3 := Lib.hid (box_below (box_new wr _ _) hb3)
          clear hb3 r0 r1 r2 r3
          cases hsh : short5 r.x r.t r.l with
          | false =>
            clear hsh
            go_wp2_with fail
            go_ret
            exact ⟨rfl, HB3.out.2.2.2⟩
          | true =>
            obtain ⟨X, hX⟩ : ∃ X, X = rawK r := ⟨_, rfl⟩
            have hz : Small X := by rw [hX]; exact rawK_small hsh
            have hx : KeyT X := by rw [hX]; exact termK_key _ _ _ _
            rw [← hX] at HXX
            have HPL := Lib.hid (fun w => plain4_any r.k r.x r.t r.l w)
            change Hid (∀ w, Calls _ _ _ w fun e w' => e = .returned (refT (rawK r)) ∧ _) at HPL
            rw [← hX] at HPL
            obtain ⟨ts', N, C, hput⟩ : ∃ ts' N C, putT G 50 ts X = (ts', N, C) := ⟨_, _, _, rfl⟩
            have HPU := Lib.hid (fun w1 (hm : MaxV w1) (hd : DcAt w.heap.size p m ts 50 w1) (hs : w.heap.size ≤ w1.heap.size) => put_any HG.out X hz hm hd HB3.out.2.2.1 (by omega) hs)
            have HRE := Lib.hid (fun w => real_any X hx w)
            rw [hput] at HPU
            dsimp only at HPU
            have hf' : Fine G ts' := by have := fine_put (room := 50) HB3.out.2.1 hx hz; rw [hput] at this; exact this
            have HP := Lib.hid (⟨hput, hf'⟩ : _ ∧ _)
            obtain ⟨c0, c1, c2, c3⟩ := cells4 HC3.out
            clear hsh hz hx hput hf'
            unfold refT at HPL HRE
            generalize tmV X = xv at *
            generalize kindV X = k0 at *
            generalize text0 X = s0 at *
            generalize text1 X = s1 at *
            generalize text2 X = s2 at *
            go_wp2_with fail
            refine (HPL.out _).mono ?_
            rintro e w4 ⟨rfl, hb4⟩
            have HB4 := Lib.hid (HB3.out.below hb4)
            have HW4 := Lib.hid (HW3.out.below hb4)
            clear hb4 c0 c1 c2 c3
            go_wp2_with fail
            refine (HRE.out _).mono ?_
            rintro e w6 ⟨rfl, hb6⟩
            have HB6 := Lib.hid (HB4.out.below hb6)
            have HW6 := Lib.hid (HW4.out.below hb6)
            clear hb6
            go_wp2_with fail
            refine (HPU.out w6 (HM.out.below HB6.out.2.2.2) HB6.out.1 HB6.out.2.2.2.size).mono ?_
            rintro e w7 ⟨rfl, hd7, hk7, hdist7⟩
            have HW7 := Lib.hid (HB6.out.1.row hk7 HW6.out (by decide) (by decide))
            have HB7 : Hid (One G w p m 50 ts' w7) := Lib.hid ⟨hd7, HP.out.2, hdist7, HB6.out.2.2.2.trans hk7.1⟩
            clear hd7 hk7 hdist7
            obtain ⟨g, gc, hv, _, _, hcell⟩ := int_at HW7.out j (by rw [HNL.out]; exact hlt)
            rw [HNL.out] at hv
            obtain ⟨rfl, rfl⟩ : va = some ⟨g, 0, none⟩ ∧ vc = gc := by injection hv with h1 _ h2; exact ⟨h1, h2⟩
            have hnum : (numsTo G 50 xs xs.length)[j]'(by rw [HNL.out]; exact hlt) = N := by
              have h2 := (again HT1.out HK.out (by rw [HXL.out]; omega) left xs.length (Nat.le_refl _)).2 j (by rw [HXL.out]; exact hlt)
              have h3 : numAt G 50 (T1.take left) xs j = N := by
                unfold numAt
                rw [HXX.out.2, ← HTS.out, HP.out.1]
              unfold numsTo
              rw [List.getElem_map, List.getElem_range, ← h2, h3]
            rw [hnum] at hcell
            clear hnum hv
            go_wp2_with fail
            refine ⟨⟨j + 1, by omega, by push_cast; rfl, rfl, Lib.hid ⟨?_, HW7.out⟩⟩, by simp only [intOf]; omega⟩
            rw [HXX.out.1, putAll_snoc, ← HTS.out, HP.out.1]
            exact HB7.out
        · have t3 : decide (j < rs.length) = false := decide_eq_false hlt
          obtain rfl : j = rs.length := by omega
          have HBB := Lib.hid hc.out.1.2.2.2
          clear hc
          go_wp2_with fail
          exact ⟨⟨2, by omega, rfl, Lib.hid ⟨fun h => by omega, fun h => by omega, HBB.out⟩⟩, by simp [intOf]⟩
    · have HBB := Lib.hid hb.out.2.2
      clear hb
      go_wp2_with fail
      go_ret
      exact ⟨rfl, HBB.out⟩
end Go.Proofs.Ytghimladdioajaa
