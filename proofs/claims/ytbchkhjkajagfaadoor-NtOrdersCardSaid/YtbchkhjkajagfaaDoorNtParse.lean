/- Contract over this seat's program: package nt's Parse. -/
import Derived.Test.YtbchkhjkajagfaaDoorNtTriple
import Derived.Test.YtbchkhjkajagfaaDoorPkA
namespace Go.Proofs.YtbchkhjkajagfaaDoor
open Go Go.RowKit
set_option linter.unusedVariables false
set_option linter.unusedSimpArgs false
set_option maxRecDepth 100000
abbrev TriRow (w : World) (base : Nat) (V : Value) (ts : List Tri) : Prop := RowOf 62 3 triC w base V ts
theorem triC_len (t : Tri) : (triC t).length = 3 := rfl
theorem tmV_one (x : Tm) : (tmV x).oneCell' = true := by cases x <;> rfl
theorem eltTri : Elt Tryd.prog 51 62 3 48 triC where
  ht := Tryd.underlying51
  hi := elt_info (z := .agg #[.nilIface, .nilIface, .nilIface]) (by kernel_rfl) rfl
  len := triC_len
  one := by
    intro X u hu
    simp only [triC, List.mem_cons, List.not_mem_nil, or_false] at hu
    rcases hu with rfl | rfl | rfl <;> exact tmV_one _
  pos := by decide
  small := by decide
theorem tri_at {w : World} {base : Nat} {V : Value} {ts : List Tri} (h : TriRow w base V ts) (j : Nat) (hj : j < ts.length) :
    ∃ g cap, V = .slice (some ⟨g, 0, none⟩) ts.length cap ∧ g < w.heap.size ∧ w.cell? ⟨g, j * 3, none⟩ = some (tmV (ts[j]'hj).s) ∧ w.cell? ⟨g, j * 3 + 1, none⟩ = some (tmV (ts[j]'hj).p) ∧ w.cell? ⟨g, j * 3 + 2, none⟩ = some (tmV (ts[j]'hj).o) := by
  obtain ⟨g, cap, hv, hb, hg, hc⟩ := h.at_ triC_len j hj
  exact ⟨g, cap, hv, hg, hc 0 _ (by omega) rfl, hc 1 _ (by omega) rfl, hc 2 _ (by omega) rfl⟩
/-- what a parse tells -/
def parseS (G : Tm → Bool) (l : List Int) (r : List UInt8) : List Tri × Nat × Int := if r = [] then parseT G l else ([], l.length, 1)
def ParseEnd (w : World) (R : List Tri × Nat × Int) (e : Ending) (w' : World) : Prop :=
  ∃ V, e = .returned (.tuple #[V, .int .i64 R.2.1, .int .i64 R.2.2]) ∧ TriRow w' w.heap.size V R.1 ∧ Below w.heap.size w w'
theorem RowOf.sk {α : Type} {T : TypeId} {size : Nat} {c : α → List Value} {w w' : World} {base X : Nat} {V : Value} {l : List α} (h : RowOf T size c w base V l) (hk : SK X w w') (hX : X < base) : RowOf T size c w' base V l :=
  h.kept_row (row := some X) ⟨hk.1.os, hk.1.tape, hk.1.output, hk.1.size, fun k hk1 hne => hk.2 k hk1 (fun e => hne (by rw [e]))⟩ fun e => by
    have := (h.own_lt X e).1
    omega
/-- behind so many lines: the scanner, the triples so far -/
def PS (l : List Int) (i X g cap : Nat) (w w1 : World) (V : Value) (acc : List Tri) (wr : World) : Prop :=
  Sn l i X g cap w1 wr ∧ TriRow wr w1.heap.size V acc ∧ w.heap.size ≤ X ∧ X < w1.heap.size ∧ g < w1.heap.size ∧ Below w.heap.size w w1
section
variable {l : List Int} {i X g cap : Nat} {w w1 : World} {V : Value} {acc : List Tri} {wr : World}
theorem PS.moved {q : Nat} {v : Value} {e : Ending} {w' : World} (h : PS l i X g cap w w1 V acc wr) (hm : Moved l q X g cap v wr e w') : e = .returned v ∧ PS l q X g cap w w1 V acc w' := by
  obtain ⟨h1, h2, h3⟩ := h
  obtain ⟨e1, h4⟩ := h1.moved hm
  exact ⟨e1, h4, h2.sk hm.2.2 h3.2.1, h3⟩
theorem PS.scan {q : Nat} {w' : World} (h : PS l i X g cap w w1 V acc wr) (hs : ScW l q X g cap w') (hk : SK X wr w') : PS l q X g cap w w1 V acc w' :=
  ⟨⟨hs, h.1.2.trans hk⟩, h.2.1.sk hk h.2.2.2.1, h.2.2⟩
theorem PS.below {w' : World} (h : PS l i X g cap w w1 V acc wr) (hb : Below wr.heap.size wr w') : PS l i X g cap w w1 V acc w' := ⟨h.1.below hb, h.2.1.below hb, h.2.2⟩
theorem PS.fin (h : PS l i X g cap w w1 V acc wr) : TriRow wr w.heap.size V acc ∧ Below w.heap.size w wr :=
  ⟨h.2.1.base h.2.2.2.2.2.size, h.2.2.2.2.2.trans (h.1.2.1.mono h.2.2.1)⟩
theorem PS.size (h : PS l i X g cap w w1 V acc wr) : w1.heap.size ≤ wr.heap.size := h.1.2.1.size
theorem PS.grow {V' : Value} {t : Tri} {wa w' : World} (h : PS l i X g cap w w1 V acc wa) (hr : TriRow w' w1.heap.size V' (acc ++ [t])) (hg : wa.grownBy w' V.ownBlock) : PS l i X g cap w w1 V' (acc ++ [t]) w' := by
  obtain ⟨⟨⟨h1, h2, h3, h4, h5, h6⟩, h7, h8⟩, h9, h10, h11, h12, h13⟩ := h
  have ho : ∀ k, V.ownBlock = some k → w1.heap.size ≤ k := fun k e => (h9.own_lt k e).1
  have hz : w1.heap.size ≤ wa.heap.size := h7.size
  have hkeep : ∀ k, k < w1.heap.size → w'.heap[k]? = wa.heap[k]? := fun k hk => hg.block k (by omega) (fun e => by have := ho k e.symm; omega)
  refine ⟨⟨⟨(hkeep X h11).trans h1, h2, fun j hj => (cell_same (hkeep g h12)).trans (h3 j hj), h4, h5, Nat.lt_of_lt_of_le h6 hg.size⟩, ⟨hg.os.trans h7.os, hg.tape.trans h7.tape, hg.output.trans h7.output, Nat.le_trans h7.size hg.size, fun k hk => (hkeep k (by omega)).trans (h7.block k hk)⟩, fun k hk hne => (hkeep k hk).trans (h8 k hk hne)⟩, hr, h10, h11, h12, h13⟩
end
set_option maxHeartbeats 6400000 in
theorem parse_any {G : Tm → Bool} (hG : GoodFn G) (s : ByteArray) (l : List Int) (r : List UInt8) (w : World) (h : Read s.data.toList l r) (hs : s.size ≤ 1048576) (hb : l.length ≤ 100000) (he : Esc w) (hm : MaxV w) :
    Calls Tryd.prog 19 #[.string s] w (ParseEnd w (parseS G l r)) := by
  by_cases hr : r = []
  · subst hr
    have HN := Lib.hid (new_ok s l w h hs)
    have hl : Signs l := h.2.1
    have HL := Lib.hid hl
    have HTR := Lib.hid (fun (w2 : World) (p X g cap : Nat) (h1 : ScW l p X g cap w2) (he2 : Env X w2) => triple_any hG h1 he2 hl hb)
    have HEV := Lib.hid (fun (X : Nat) (w2 : World) (h1 : w.heap.size ≤ X) (h2 : Below w.heap.size w w2) => Env.of he hm h1 h2)
    have HLB := Lib.hid hb
    have HGF := Lib.hid hG
    have hb6 : l.length ≤ 1000000 := by omega
    obtain ⟨R, hR⟩ : ∃ R, R = parseT G l := ⟨_, rfl⟩
    have HR : Hid (parseGo G l (l.length + 1) 0 [] = R) := Lib.hid (by rw [hR]; rfl)
    unfold parseS
    rw [if_pos rfl, ← hR]
    clear h hl he hm hR hb hG
    go_enter Tryd.func19, Tryd.ntmps19
    go_wp2_with fail
    refine HN.out.mono ?_
    rintro e w1 ⟨X, g, cap, rfl, hs1, hX, hg, hb1⟩
    have HP1 : Hid (PS l 0 X g cap w w1 (.slice none 0 0) [] w1) := Lib.hid ⟨Sn.refl hs1, RowOf.nil _ _, hX, hs1.lt, hs1.2.2.2.2.2, hb1⟩
    have HE1 := Lib.hid (HEV.out X w1 hX hb1)
    clear hs1 hX hg hb1 HN HEV
    go_wp2_with fail
    go_loopg [8] (l.length + 1) (fun gn V wr => ∃ (i : Nat) (acc : List Tri), i ≤ l.length ∧ l.length < gn + i ∧ Hid (acc.length ≤ i) ∧ Hid (parseGo G l gn i acc = R) ∧ Hid (PS l i X g cap w w1 V acc wr))
    case atStart => exact ⟨0, [], by omega, by omega, Lib.hid (by simp), HR, HP1⟩
    case round =>
      obtain ⟨i, acc, hi, hgi, hai, hQ, hP⟩ := hrel
      clear HR HP1
      by_cases hil : i < l.length
      · obtain ⟨f, rfl⟩ : ∃ f, gk = f + 1 := ⟨gk - 1, by omega⟩
        have HQ : Hid ((match overT l i with
            | (j, true) => parseGo G l f j acc
            | (j, false) =>
              match tripleT G l j with
              | (none, k, c) => ([], k, c)
              | (some t, k, _) =>
                match overT l k with
                | (n, true) => parseGo G l f n (acc ++ [t])
                | (n, false) => ([], n, 1)) = R) := Lib.hid (by
          have h1 := hQ.out
          unfold parseGo at h1
          rw [if_neg (by omega)] at h1
          exact h1)
        have HEN := Lib.hid (fun w2 (h1 : ScW l i X g cap w2) => nend_any h1)
        rw [decide_eq_false (by omega)] at HEN
        have HOV := Lib.hid (fun w2 (h1 : ScW l i X g cap w2) => over_any h1 HL.out hb6)
        have HOF := Lib.hid (over_facts l hi)
        obtain ⟨j, b, hjb⟩ : ∃ j b, overT l i = (j, b) := ⟨_, _, rfl⟩
        rw [hjb] at HQ HOV HOF
        dsimp only at HQ HOV HOF
        clear hjb hQ
        cases b with
        | true =>
          dsimp only at HQ
          have hj1 : i < j := HOF.out.2.2.1 rfl hil
          have hj2 : j ≤ l.length := HOF.out.2.1
          clear HOF
          go_wp2_with fail
          refine (HEN.out _ hP.out.1.1).mono ?_
          rintro e w2 ⟨rfl, hb2⟩
          have HP2 := Lib.hid (hP.out.below hb2)
          clear hb2
          go_wp2_with fail
          refine (HOV.out _ HP2.out.1.1).mono ?_
          intro e w3 hmv
          obtain ⟨rfl, hp3⟩ := HP2.out.moved hmv
          have HP3 := Lib.hid hp3
          clear hmv hp3
          go_wp2_with fail
          go_roundg f
          case measure => omega
          case rel => exact ⟨j, acc, hj2, by omega, Lib.hid (by have := hai.out; omega), HQ, HP3⟩
        | false =>
          dsimp only at HQ
          have hj1 : i ≤ j := HOF.out.1
          have hj2 : j < l.length := HOF.out.2.2.2 rfl
          have HTR2 := Lib.hid (fun w2 (h1 : ScW l j X g cap w2) (h2 : Env X w2) => HTR.out w2 j X g cap h1 h2)
          obtain ⟨o, k, c, hr⟩ : ∃ o k c, tripleT G l j = (o, k, c) := ⟨_, _, _, rfl⟩
          unfold TripleEnd at HTR2
          rw [hr] at HQ HTR2
          dsimp only at HQ HTR2
          have HTF := Lib.hid (fun k' c' t (e : (o, k, c) = (some t, k', c')) => triple_facts HGF.out HL.out HLB.out (hr.trans e))
          have HCODE := Lib.hid (fun k' c' (e : (o, k, c) = ((none : Option Tri), k', c')) => triple_code (hr.trans e))
          clear HOF hr
          cases o with
          | none =>
            dsimp only at HQ
            have hc0 : c ≠ 0 := HCODE.out k c rfl
            have t1 : (c != 0) = true := by simpa using hc0
            clear hc0 HTF HCODE
            go_wp2_with fail
            refine (HEN.out _ hP.out.1.1).mono ?_
            rintro e w2 ⟨rfl, hb2⟩
            have HP2 := Lib.hid (hP.out.below hb2)
            clear hb2
            go_wp2_with fail
            refine (HOV.out _ HP2.out.1.1).mono ?_
            intro e w3 hmv
            obtain ⟨rfl, hp3⟩ := HP2.out.moved hmv
            have HP3 := Lib.hid hp3
            clear hmv hp3
            go_wp2_with fail
            refine (HTR2.out _ HP3.out.1.1 (HE1.out.sk HP3.out.1.2)).mono ?_
            rintro e w4 ⟨q, rfl, -, hs4, hk4⟩
            have HP4 := Lib.hid (HP3.out.scan hs4 hk4)
            clear hs4 hk4
            unfold triR
            go_wp2_with fail
            refine bodyPost_ret (v := .tuple #[.slice none 0 0, .int .i64 k, .int .i64 c]) (by simp [results, Tryd.results19, go_sem]) rfl ?_
            rw [← HQ.out]
            have HF := (HP4.out.below ((Below.refl _ w4).alloc (Nat.le_refl _) (.cells #[.nilIface, .nilIface, .nilIface] 62))).fin
            exact ⟨_, rfl, RowOf.nil _ _, HF.2⟩
          | some t =>
            dsimp only at HQ
            obtain ⟨hc0, hk1, hk2, -, -, -⟩ := HTF.out k c t rfl
            subst hc0
            have HKT := Lib.hid (HTF.out k 0 t rfl).2.2.2.2.2.1
            have HOV2 := Lib.hid (fun w2 (h1 : ScW l k X g cap w2) => over_any h1 HL.out hb6)
            have HOF2 := Lib.hid (over_facts l hk2)
            obtain ⟨n, b, hnb⟩ : ∃ n b, overT l k = (n, b) := ⟨_, _, rfl⟩
            rw [hnb] at HQ HOV2 HOF2
            dsimp only at HQ HOV2 HOF2
            obtain ⟨T1, Y1, e1⟩ := key_iface HKT.out.1
            obtain ⟨T2, Y2, e2⟩ := key_iface HKT.out.2.1
            obtain ⟨T3, Y3, e3⟩ := key_iface HKT.out.2.2
            have HV : Hid (triR (some t) = .agg #[.iface T1 Y1, .iface T2 Y2, .iface T3 Y3]) := Lib.hid (by show triV t = _; unfold triV; rw [e1, e2, e3])
            have HTC : Hid (triC t = [.iface T1 Y1, .iface T2 Y2, .iface T3 Y3]) := Lib.hid (by unfold triC; rw [e1, e2, e3])
            clear HTF HCODE hnb e1 e2 e3
            rw [HV.out] at HTR2
            have hn1 : k ≤ n := HOF2.out.1
            have hn2 : n ≤ l.length := HOF2.out.2.1
            go_wp2_with fail
            refine (HEN.out _ hP.out.1.1).mono ?_
            rintro e w2 ⟨rfl, hb2⟩
            have HP2 := Lib.hid (hP.out.below hb2)
            clear hb2
            go_wp2_with fail
            refine (HOV.out _ HP2.out.1.1).mono ?_
            intro e w3 hmv
            obtain ⟨rfl, hp3⟩ := HP2.out.moved hmv
            have HP3 := Lib.hid hp3
            clear hmv hp3
            go_wp2_with fail
            refine (HTR2.out _ HP3.out.1.1 (HE1.out.sk HP3.out.1.2)).mono ?_
            rintro e w4 ⟨q, rfl, hq, hs4, hk4⟩
            obtain rfl := hq rfl
            have HP4 := Lib.hid (HP3.out.scan hs4 hk4)
            clear hs4 hk4 hq
            have hz4 := HP4.out.size
            obtain ⟨W5, hW5⟩ : ∃ W5, W5 = w4.alloc (.cells #[.iface T1 Y1, .iface T2 Y2, .iface T3 Y3] 62) := ⟨_, rfl⟩
            have hb5 : Below w4.heap.size w4 W5 := by rw [hW5]; exact (Below.refl _ w4).alloc (Nat.le_refl _) _
            have hx5 : W5.heap[w4.heap.size]? = some (.cells #[.iface T1 Y1, .iface T2 Y2, .iface T3 Y3] 62 (0, 0)) := by rw [hW5]; exact blk_new w4 _ _
            have HP5 := Lib.hid (HP4.out.below hb5)
            have HX5 := Lib.hid hx5
            have HW5 := Lib.hid hW5
            clear hW5 hb5 hx5
            go_wp2_with fail
            rw [← HW5.out]
            cases b with
            | true =>
              dsimp only at HQ
              refine (HOV2.out _ HP5.out.1.1).mono ?_
              intro e w6 hmv
              have hk6 := hmv.2.2
              obtain ⟨rfl, hp6⟩ := HP5.out.moved hmv
              have HP6 := Lib.hid hp6
              have HX6 : Hid (w6.heap[w4.heap.size]? = some (.cells #[.iface T1 Y1, .iface T2 Y2, .iface T3 Y3] 62 (0, 0))) := Lib.hid ((hk6.2 _ (lt_blk HX5.out) (by have := HP5.out.2.2.2.1; omega)).trans HX5.out)
              obtain ⟨d0, d1, d2, -⟩ := blk3 HX6.out
              obtain ⟨va, vc, rfl⟩ := HP6.out.2.1.form
              clear hmv hp6 hk6
              go_wp2_with (at_builtin; go_loud (refine wpList_append_rows eltTri _ rfl (.tmp 44) (.tmp 46) rfl w1.heap.size w6.heap.size _ _ acc [t] rfl rfl (HP6.out.2.1.below ((Below.refl _ _).alloc (Nat.le_refl _) (.cells #[.iface T1 Y1, .iface T2 Y2, .iface T3 Y3] 62))) (show TriRow (w6.alloc (.cells #[.iface T1 Y1, .iface T2 Y2, .iface T3 Y3] 62)) w6.heap.size (.slice (some ⟨w6.heap.size, 0, none⟩) 1 1) [t] from by have := RowOf.new (T := 62) triC_len w6 [t] (by simp); rw [show [t].flatMap triC = [.iface T1 Y1, .iface T2 Y2, .iface T3 Y3] from by rw [List.flatMap_singleton, HTC.out]] at this; exact this) (by have := hai.out; have := HLB.out; simp; omega) (by have := HP6.out.size; simp; omega) ?_; intro V8 w8 r8 q8 at8))
              have HP8 := Lib.hid ((HP6.out.below ((Below.refl _ _).alloc (Nat.le_refl _) (.cells #[.iface T1 Y1, .iface T2 Y2, .iface T3 Y3] 62))).grow r8 q8)
              go_roundg f
              case measure => omega
              case rel => exact ⟨n, acc ++ [t], hn2, by omega, Lib.hid (by have := hai.out; simp; omega), HQ, HP8⟩
            | false =>
              dsimp only at HQ
              refine (HOV2.out _ HP5.out.1.1).mono ?_
              intro e w6 hmv
              obtain ⟨rfl, hp6⟩ := HP5.out.moved hmv
              have HP6 := Lib.hid hp6
              clear hmv hp6
              go_wp2_with fail
              refine (place_any l n X g cap _ HP6.out.1.1).mono ?_
              rintro e w7 ⟨rfl, rfl⟩
              go_wp2_with fail
              refine bodyPost_ret (v := .tuple #[.slice none 0 0, .int .i64 n, .int .i64 1]) (by simp [results, Tryd.results19, go_sem]) rfl ?_
              rw [← HQ.out]
              exact ⟨_, rfl, RowOf.nil _ _, HP6.out.fin.2⟩
      · have HQ : Hid ((acc, 0, 0) = R) := Lib.hid (by rw [← hQ.out, parse_end (by omega)])
        have HEN := Lib.hid (fun w2 (h1 : ScW l i X g cap w2) => nend_any h1)
        rw [decide_eq_true (by omega)] at HEN
        clear hQ
        go_wp2_with fail
        refine (HEN.out _ hP.out.1.1).mono ?_
        rintro e w2 ⟨rfl, hb2⟩
        have HP2 := Lib.hid (hP.out.below hb2)
        obtain ⟨va, vc, rfl⟩ := HP2.out.2.1.form
        clear hb2
        go_wp2_with fail
        refine bodyPost_ret (v := .tuple #[.slice va acc.length vc, .int .i64 0, .int .i64 0]) (by simp [results, Tryd.results19, go_sem]) rfl ?_
        rw [← HQ.out]
        exact ⟨_, rfl, HP2.out.fin.1, HP2.out.fin.2⟩
  · have HN := Lib.hid (new_bad s l r w h hr hs)
    unfold parseS
    rw [if_neg hr]
    clear h he hm
    go_enter Tryd.func19, Tryd.ntmps19
    go_wp2_with fail
    refine HN.out.mono ?_
    rintro e w1 ⟨rfl, hb1⟩
    go_wp2_with fail
    refine bodyPost_ret (v := .tuple #[.slice none 0 0, .int .i64 l.length, .int .i64 1]) (by simp [results, Tryd.results19, go_sem]) rfl ?_
    exact ⟨_, rfl, RowOf.nil _ _, hb1⟩
end Go.Proofs.YtbchkhjkajagfaaDoor
