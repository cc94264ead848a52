/- The contract of beckref02's Parse over this seat's program: the number of a text as digits, or why it is none's. Texts of at most 6000 bytes. -/
import Derived.Test.YteeajhnbifpklaaGreatDoorVtPlain
import Derived.Test.YteeajhnbifpklaaGreatDoorRfDig
import Derived.Deep.RegionWith
import Derived.Deep.RegionLaw
import Derived.Deep.AppendLies
namespace Go.Proofs.YteeajhnbifpklaaGreatDoor
open Go Go.RowKit
set_option linter.unusedVariables false
theorem infoB : (Tryz.prog.info? 35).isSome = true := by kernel_rfl
theorem big_zero (w : World) : BigV w (.agg #[.bool false, .slice none 0 0]) 0 :=
  ⟨.slice none 0 0, [], rfl, ⟨none, 0, rfl, Nat.le_refl _, by omega, fun j hj => by simp at hj⟩, good_nil, .inl rfl, rfl⟩
theorem digs_snoc (c : UInt8) (t : List UInt8) : digs (c :: t) = digs t ++ [(c.toNat : Int) - 48] := by simp [digs]
theorem frozen_set (w : World) (a b : Addr) (v : Value) : (w.setCell a v).frozen? b = w.frozen? b := World.frozen?_setCell _ _ _ _
theorem mag_wide (l : List UInt8) (h : l.all isDig = true) (hl : l.length ≤ 6000) : szV (magF 0 l : Int) < ten 6000 ∧ szV (-(magF 0 l : Int)) < ten 6000 := by
  have h1 := val_lt (digs_good l h)
  rw [digs_val l h, digs_len] at h1
  have h2 := ten_mono hl
  unfold szV
  constructor <;> split <;> omega
theorem bigV_set {w : World} {H : Nat} {sx : Bool} {a : Option Addr} {k cap : Nat} {X : Int} {u v : Value} (h : BigV w (.agg #[.bool sx, .slice a k cap]) X) (hg : ∀ g off, a = some ⟨g, off, none⟩ → H + 2 ≤ g) :
    BigV ((w.setCell ⟨H, 0, none⟩ u).setCell ⟨H, 1, none⟩ v) (.agg #[.bool sx, .slice a k cap]) X := by
  obtain ⟨s', ds, h1, ⟨a', cap', h2, h3, h4, h5⟩, h6⟩ := h
  subst h2
  cases h1
  refine ⟨_, ds, rfl, ⟨a, cap, rfl, h3, h4, fun j hj => ?_⟩, h6⟩
  obtain ⟨g, off, e1, e2⟩ := h5 j hj
  have := hg g off e1
  refine ⟨g, off, e1, ?_⟩
  rw [World.cell?_setCell_other _ _ _ _ (by simp <;> omega), World.cell?_setCell_other _ _ _ _ (by simp <;> omega)]
  exact e2
set_option maxRecDepth 100000 in
set_option maxHeartbeats 3200000 in
theorem refparse_any (s : ByteArray) (hs : s.size ≤ 6000) (w : World) :
    Calls Tryz.prog 24 #[.string s] w fun e w' => ∃ b, e = .returned (.tuple #[b, .int .i64 (eP s.data.toList)]) ∧ BigV w' b (nP s.data.toList) ∧ Below w.heap.size w w' := by
  obtain ⟨i0, hi, hz0, hz1, hz2⟩ := info_parts infoD
  obtain ⟨N, hN⟩ : ∃ N, N = nP s.data.toList := ⟨_, rfl⟩
  obtain ⟨E, hE⟩ : ∃ E, E = eP s.data.toList := ⟨_, rfl⟩
  rw [← hN, ← hE]
  have HN := Lib.hid hN
  have HE := Lib.hid hE
  clear hN hE
  cases hL : s.data.toList with
  | nil =>
    have h00 : s.size = 0 := by rw [Lib.size_eq s, hL]; rfl
    obtain rfl : N = 0 := by rw [HN.out, hL]; rfl
    obtain rfl : E = 1 := by rw [HE.out, hL]; rfl
    clear HN HE hL
    go_enter Tryz.func24, Tryz.ntmps24
    go_wp2_with fail
    refine bodyPost_ret (v := .tuple #[.agg #[.bool false, .slice none 0 0], .int .i64 1]) (by simp [results, Tryz.results24, go_sem]) rfl ?_
    exact ⟨_, rfl, big_zero _, by go_grown⟩
  | cons c r =>
    have hsz : 0 < s.size := by rw [Lib.size_eq s, hL]; simp
    have hg : s[0]'hsz = c := by
      have : s.data.toList[0]? = some c := by rw [hL]; rfl
      have e : s.data.toList[0]? = some (s[0]'hsz) := by rw [List.getElem?_eq_getElem (by simpa using hsz)]; rfl
      rw [e] at this; exact Option.some.inj this
    have hcb : c.toNat < 256 := c.toNat_lt
    by_cases h43 : c.toNat = 43
    · have hB0 : bodyT s.data.toList = s.data.toList.drop 1 := by rw [hL]; show (if c.toNat = 43 ∨ c.toNat = 45 then r else c :: r) = r; rw [if_pos (by omega)]
      have hS0 : negT s.data.toList = false := by rw [hL]; show decide (c.toNat = 45) = _; rw [h43]; rfl
      have HB := Lib.hid hB0
      have HS := Lib.hid hS0
      by_cases hr : s.size = 1
      · have hNum : isNum s.data.toList = false := by
          unfold isNum
          rw [hB0, List.drop_eq_nil_of_le (by rw [← Lib.size_eq]; omega)]; rfl
        obtain rfl : N = 0 := by rw [HN.out]; unfold nP; rw [hNum]; rfl
        obtain rfl : E = 1 := by rw [HE.out]; unfold eP; rw [hNum]; rfl
        clear HN HE hNum hB0 hS0 hL
        have hc : (c.toNat : Int) = 43 := by omega
        go_enter Tryz.func24, Tryz.ntmps24
        go_wp2_with fail
        refine bodyPost_ret (v := .tuple #[.agg #[.bool false, .slice none 0 0], .int .i64 1]) (by simp [results, Tryz.results24, go_sem]) rfl ?_
        exact ⟨_, rfl, big_zero _, by go_grown⟩
      · have HNE : Hid ((s.data.toList.drop 1).isEmpty = false) := Lib.hid (by
          rw [List.isEmpty_eq_false_iff]
          intro hh
          have := congrArg List.length hh
          rw [List.length_drop, ← Lib.size_eq] at this
          simp at this; omega)
        have hr2 : ((s.size : Int) == 1) = false := by rw [beq_eq_false_iff_ne]; omega
        have hr3 : 1 < s.size := by omega
        clear hB0 hS0 hL hr
        have hc : (c.toNat : Int) = 43 := by omega
        clear h43
        go_enter Tryz.func24, Tryz.ntmps24
        go_wp2_with fail
        go_loopw [6] (fun x wr => ∃ (m K : Nat) (a : Option Addr) (cap : Nat), 1 ≤ m ∧ m ≤ s.size ∧ K + m ≤ s.size ∧ s.size ≤ K + m ∧ x = .int .i64 ((m : Int) - 1) ∧ Hid ((s.data.toList.drop m).all isDig = true) ∧
            wr.cell? ⟨w.heap.size + 1, 0, none⟩ = some (.bool false) ∧ wr.cell? ⟨w.heap.size + 1, 1, none⟩ = some (.slice a K cap) ∧ wr.frozen? ⟨w.heap.size + 1, 0, none⟩ = false ∧ wr.frozen? ⟨w.heap.size + 1, 1, none⟩ = false ∧
            wr.cell? ⟨w.heap.size, 0, none⟩ = some (.bool false) ∧ wr.cell? ⟨w.heap.size, 1, none⟩ = some (.slice none 0 0) ∧ wr.frozen? ⟨w.heap.size, 0, none⟩ = false ∧ wr.frozen? ⟨w.heap.size, 1, none⟩ = false ∧
            Hid (wr.ownsRow (w.heap.size + 2) 3 1 (.slice a K cap) K ((digs (s.data.toList.drop m)).map (Value.int .i64))) ∧ Hid (Below w.heap.size w wr)) (fun x _ => (intOf x + 1).toNat)
        case atStart =>
          refine ⟨s.size, 0, none, 0, by omega, by omega, by omega, by omega, by first | rfl | go_num, Lib.hid (by rw [List.drop_eq_nil_of_le (by simp)]; rfl), by simp [go_sem], by simp [go_sem], by simp [go_sem], by simp [go_sem], by simp [go_sem], by simp [go_sem], by simp [go_sem], by simp [go_sem], Lib.hid (by rw [List.drop_eq_nil_of_le (by simp)]; exact World.ownsRow_nil _ _ _ _), Lib.hid ?_⟩
          exact by go_grown
        case round =>
          obtain ⟨m, K, a, cap, hm1, hm2, hk1, hk2, rfl, hall, c0, c1, f0, f1, d0, d1, g0, g1, hO, hB⟩ := hrel
          by_cases hmf : m = 1
          · subst hmf
            have hB2 : bodyT s.data.toList = s.data.toList.drop 1 := HB.out
            have hNum : isNum s.data.toList = true := by unfold isNum; rw [hB2, hall.out, Bool.and_true, HNE.out]; rfl
            have HV : Hid (numV false (val (digs (s.data.toList.drop 1))) = numT s.data.toList) := Lib.hid (by rw [digs_val _ hall.out]; unfold numT numV; rw [hB2, HS.out])
            have HG := Lib.hid (digs_good _ hall.out)
            have hlen : (digs (s.data.toList.drop 1)).length = K := by rw [digs_len, List.length_drop, ← Lib.size_eq]; omega
            have HLN := Lib.hid hlen
            have h60 : szV (numT s.data.toList) < ten 6000 := by
              have := mag_wide _ hall.out (by rw [List.length_drop, ← Lib.size_eq]; omega)
              unfold numT
              rw [hB2]
              split
              · exact this.2
              · exact this.1
            have H60 := Lib.hid h60
            have hK60 : K ≤ 6000 := by omega
            obtain ⟨k1, k2, hda⟩ := digA_own (by rw [hlen]; exact hO.out)
            rw [hlen] at k1
            have HDA := Lib.hid hda
            have HGE : Hid (∀ g off, a = some ⟨g, off, none⟩ → w.heap.size + 2 ≤ g) := Lib.hid (fun g off h => by
              rcases hO.out with ⟨_, ⟨h1, _⟩ | ⟨g', cap', cur, h1, h2, _⟩⟩
              · cases h1; cases h
              · cases h1; cases h; exact h2)
            have HNum := Lib.hid hNum
            clear hlen hda hO hall h60 hB2 hNum
            have TR := Lib.hid (fun w (h : DigA w a (digs (s.data.toList.drop 1))) => trim_any false a cap (digs (s.data.toList.drop 1)) w (by rw [HLN.out]; omega) HG.out (by rw [HLN.out]; exact k1) k2 h)
            rw [HLN.out, HV.out] at TR
            obtain ⟨X, hX⟩ : ∃ X, X = numT s.data.toList := ⟨_, rfl⟩
            rw [← hX] at TR
            have HX := Lib.hid hX
            clear hX
            go_wp2_with fail
            refine (TR.out _ HDA.out).mono ?_
            rintro e w2 ⟨k, hk, rfl, G2, N2, V2, hb2⟩
            rw [HLN.out] at hk
            have C0 := cell_below c0 hb2
            have C1 := cell_below c1 hb2
            have F0 := frozen_below f0 c0 hb2
            have F1 := frozen_below f1 c1 hb2
            have D0 := cell_below d0 hb2
            have D1 := cell_below d1 hb2
            have E0 := frozen_below g0 d0 hb2
            have E1 := frozen_below g1 d1 hb2
            have HDB := Lib.hid (digA_below HDA.out hb2)
            have HB2 := Lib.hid (hB.out.trans (hb2.mono hB.out.size))
            have HG2 := Lib.hid G2; have HN2 := Lib.hid N2; have HV2 := Lib.hid V2
            clear G2 N2 V2 hb2 c0 c1 f0 f1 d0 d1 g0 g1 TR hB HDA
            obtain ⟨sx, hsx⟩ : ∃ sx, sx = decide (X < 0) := ⟨_, rfl⟩
            rw [← hsx]
            have HSX := Lib.hid hsx
            clear hsx
            obtain ⟨FB, hFB⟩ : ∃ FB, FB = fitsV X := ⟨_, rfl⟩
            have HFB := Lib.hid hFB
            have FT := Lib.hid (fun w (h : BigV w (.agg #[.bool sx, .slice a k cap]) X) => fits_any X _ w (by rw [HX.out]; exact H60.out) h)
            rw [← hFB] at FT
            clear hFB
            go_wp2_with fail
            have Z3 := Lib.hid ((HB2.out.setCell (p := ⟨w.heap.size + 1, 0, none⟩) (by simp) (.bool sx)).setCell (p := ⟨w.heap.size + 1, 1, none⟩) (by simp) (.slice a k cap))
            have C0' : ((w2.setCell ⟨w.heap.size + 1, 0, none⟩ (.bool sx)).setCell ⟨w.heap.size + 1, 1, none⟩ (.slice a k cap)).cell? ⟨w.heap.size + 1, 0, none⟩ = some (.bool sx) := by
              rw [World.cell?_setCell_other _ _ _ _ (by simp)]; exact World.cell?_setCell_same _ _ _ C0
            have C1' : ((w2.setCell ⟨w.heap.size + 1, 0, none⟩ (.bool sx)).setCell ⟨w.heap.size + 1, 1, none⟩ (.slice a k cap)).cell? ⟨w.heap.size + 1, 1, none⟩ = some (.slice a k cap) :=
              World.cell?_setCell_same _ _ _ ((World.cell?_setCell_other _ _ _ _ (by simp)).trans C1)
            have D0' : ((w2.setCell ⟨w.heap.size + 1, 0, none⟩ (.bool sx)).setCell ⟨w.heap.size + 1, 1, none⟩ (.slice a k cap)).cell? ⟨w.heap.size, 0, none⟩ = some (.bool false) :=
              ((World.cell?_setCell_other _ _ _ _ (by simp)).trans (World.cell?_setCell_other _ _ _ _ (by simp))).trans D0
            have D1' : ((w2.setCell ⟨w.heap.size + 1, 0, none⟩ (.bool sx)).setCell ⟨w.heap.size + 1, 1, none⟩ (.slice a k cap)).cell? ⟨w.heap.size, 1, none⟩ = some (.slice none 0 0) :=
              ((World.cell?_setCell_other _ _ _ _ (by simp)).trans (World.cell?_setCell_other _ _ _ _ (by simp))).trans D1
            have E0' : ((w2.setCell ⟨w.heap.size + 1, 0, none⟩ (.bool sx)).setCell ⟨w.heap.size + 1, 1, none⟩ (.slice a k cap)).frozen? ⟨w.heap.size, 0, none⟩ = false := ((frozen_set _ _ _ _).trans (frozen_set _ _ _ _)).trans E0
            have E1' : ((w2.setCell ⟨w.heap.size + 1, 0, none⟩ (.bool sx)).setCell ⟨w.heap.size + 1, 1, none⟩ (.slice a k cap)).frozen? ⟨w.heap.size, 1, none⟩ = false := ((frozen_set _ _ _ _).trans (frozen_set _ _ _ _)).trans E1
            have HBV : Hid (BigV ((w2.setCell ⟨w.heap.size + 1, 0, none⟩ (.bool sx)).setCell ⟨w.heap.size + 1, 1, none⟩ (.slice a k cap)) (.agg #[.bool sx, .slice a k cap]) X) := Lib.hid (by
              rw [HSX.out]
              refine bigV_take (ds := digs (s.data.toList.drop 1)) (by rw [HLN.out]; exact hk) (by rw [HLN.out]; exact k1) k2 ?_ HG2.out HN2.out HV2.out
              intro j hj
              obtain ⟨g, off, h1, h2⟩ := HDB.out j hj
              refine ⟨g, off, h1, ?_⟩
              have hgb : w.heap.size + 2 ≤ g := HGE.out g off h1
              rw [World.cell?_setCell_other _ _ _ _ (by simp <;> omega), World.cell?_setCell_other _ _ _ _ (by simp <;> omega)]
              exact h2)
            generalize ((w2.setCell ⟨w.heap.size + 1, 0, none⟩ (.bool sx)).setCell ⟨w.heap.size + 1, 1, none⟩ (.slice a k cap)) = w3 at *
            clear C0 C1 F0 F1 D0 D1 E0 E1 HDB HB2
            refine (FT.out _ HBV.out).mono ?_
            rintro e w5 ⟨rfl, hb5⟩
            replace C0' := cell_below C0' hb5
            replace C1' := cell_below C1' hb5
            replace E0' := frozen_below E0' D0' hb5
            replace E1' := frozen_below E1' D1' hb5
            replace D0' := cell_below D0' hb5
            replace D1' := cell_below D1' hb5
            replace HBV := Lib.hid (bigV_below HBV.out hb5)
            replace Z3 := Lib.hid (Z3.out.trans (hb5.mono Z3.out.size))
            clear hb5 FT
            have hfs : fits X = fitsV X := by unfold fitsV fits; simp
            cases hfb : FB with
            | true =>
              subst hfb
              have hf : fits (numT s.data.toList) = true := by rw [← HX.out, hfs]; exact HFB.out.symm
              have hNX : N = X := by rw [HN.out]; unfold nP; rw [HNum.out, hf, HX.out]; rfl
              obtain rfl : E = 0 := by rw [HE.out]; unfold eP; rw [HNum.out, hf]; rfl
              have HNX := Lib.hid hNX
              clear hf hfs hNX HN HE
              go_wp2_with fail
              have e0 : ((w5.setCell ⟨w.heap.size, 0, none⟩ (.bool sx)).setCell ⟨w.heap.size, 1, none⟩ (.slice a k cap)).cell? ⟨w.heap.size, 0, none⟩ = some (.bool sx) := by
                rw [World.cell?_setCell_other _ _ _ _ (by simp)]; exact World.cell?_setCell_same _ _ _ D0'
              have e1 : ((w5.setCell ⟨w.heap.size, 0, none⟩ (.bool sx)).setCell ⟨w.heap.size, 1, none⟩ (.slice a k cap)).cell? ⟨w.heap.size, 1, none⟩ = some (.slice a k cap) :=
                World.cell?_setCell_same _ _ _ ((World.cell?_setCell_other _ _ _ _ (by simp)).trans D1')
              refine bodyPost_ret (v := .tuple #[.agg #[.bool sx, .slice a k cap], .int .i64 0]) (by simp [results, Tryz.results24, go_sem, e0, e1]) rfl ?_
              refine ⟨_, rfl, ?_, (Z3.out.setCell (p := ⟨w.heap.size, 0, none⟩) (by simp) _).setCell (p := ⟨w.heap.size, 1, none⟩) (by simp) _⟩
              rw [HNX.out]
              exact bigV_set HBV.out (fun g off h => HGE.out g off h)
            | false =>
              subst hfb
              have hf : fits (numT s.data.toList) = false := by rw [← HX.out, hfs]; exact HFB.out.symm
              obtain rfl : N = 0 := by rw [HN.out]; unfold nP; rw [HNum.out, hf]; rfl
              obtain rfl : E = 9 := by rw [HE.out]; unfold eP; rw [HNum.out, hf]; rfl
              clear hf hfs HN HE
              go_wp2_with fail
              have e0 : ((w5.setCell ⟨w.heap.size, 0, none⟩ (.bool false)).setCell ⟨w.heap.size, 1, none⟩ (.slice none 0 0)).cell? ⟨w.heap.size, 0, none⟩ = some (.bool false) := by
                rw [World.cell?_setCell_other _ _ _ _ (by simp)]; exact World.cell?_setCell_same _ _ _ D0'
              have e1 : ((w5.setCell ⟨w.heap.size, 0, none⟩ (.bool false)).setCell ⟨w.heap.size, 1, none⟩ (.slice none 0 0)).cell? ⟨w.heap.size, 1, none⟩ = some (.slice none 0 0) :=
                World.cell?_setCell_same _ _ _ ((World.cell?_setCell_other _ _ _ _ (by simp)).trans D1')
              refine bodyPost_ret (v := .tuple #[.agg #[.bool false, .slice none 0 0], .int .i64 9]) (by simp [results, Tryz.results24, go_sem, e0, e1]) rfl ?_
              exact ⟨_, rfl, big_zero _, (Z3.out.setCell (p := ⟨w.heap.size, 0, none⟩) (by simp) _).setCell (p := ⟨w.heap.size, 1, none⟩) (by simp) _⟩
          · obtain ⟨J, rfl⟩ : ∃ J, m = J + 1 := ⟨m - 1, by omega⟩
            have hJl : J < s.data.toList.length := by rw [← Lib.size_eq]; omega
            obtain ⟨c, hc⟩ : ∃ c, c = s.data.toList[J]'hJl := ⟨_, rfl⟩
            have HD : Hid (s.data.toList.drop J = c :: s.data.toList.drop (J + 1)) := Lib.hid (by rw [hc]; exact List.drop_eq_getElem_cons hJl)
            have hJ : J < s.size := by omega
            have hgJ : s[J]'hJ = c := by rw [hc]; rfl
            have hcb : c.toNat < 256 := c.toNat_lt
            have HBD : Hid (c ∈ bodyT s.data.toList) := Lib.hid (by
              rw [HB.out]
              have h1 : c ∈ s.data.toList.drop J := by rw [HD.out]; exact List.mem_cons_self
              have h2 : s.data.toList.drop J = (s.data.toList.drop 1).drop (J - 1) := by rw [List.drop_drop]; congr 1; omega
              rw [h2] at h1
              exact List.mem_of_mem_drop h1)
            clear hc hJl
            rw [show ((J + 1 : Nat) : Int) - 1 = (J : Int) from by omega]
            by_cases hdg : 48 ≤ c.toNat ∧ c.toNat ≤ 57
            · obtain ⟨dg, hdg1⟩ : ∃ dg : Int, (c.toNat : Int) = dg + 48 := ⟨(c.toNat : Int) - 48, by omega⟩
              have hl0 : (48 : Int) ≤ c.toNat := by omega
              have hl1 : (c.toNat : Int) ≤ 57 := by omega
              have hdg2 : (0 : Int) ≤ dg := by omega
              have hdg3 : dg ≤ 9 := by omega
              have HAL : Hid ((s.data.toList.drop J).all isDig = true) := Lib.hid (by rw [HD.out, List.all_cons, hall.out, (isDig_iff c).2 hdg]; rfl)
              have HDS : Hid ((digs (s.data.toList.drop J)).map (Value.int .i64) = (digs (s.data.toList.drop (J + 1))).map (Value.int .i64) ++ [.int .i64 dg]) := Lib.hid (by
                rw [HD.out, digs_snoc, List.map_append, show (c.toNat : Int) - 48 = dg from by omega]; rfl)
              have hw1 : IntKind.u8.wrap ((c.toNat : Int) - 48) = dg := by rw [show (c.toNat : Int) - 48 = dg from by omega]; exact IntWalk.u8_in _ ⟨by omega, by omega⟩
              have hw2 : IntKind.i64.wrap dg = dg := IntWalk.i64_in _ ⟨by omega, by omega⟩
              have HO5 := Lib.hid (fun (o : Obj) => ((hO.out.alloc o).drew))
              have HO6 := Lib.hid (fun (o : Obj) => ((hO.out.drew).alloc o))
              have HO7 := Lib.hid (fun (o : Obj) => (hO.out.alloc o))
              have hlt := hO.out.lt
              have HLT := Lib.hid hlt
              have hsz2 : w.heap.size + 1 < wr.heap.size := block_lt_of_cell c0
              clear hdg hO hlt HBD hall hdg1
              go_wp2_with fail
              go_region_law ((refine step_append_lies _ rfl (.tmp 50) (.tmp 56) 35 rfl (w.heap.size + 2) 3 i0 (.int .i64 0) 1 8 Tryz.underlying35 hi hz0 hz1 hz2 rfl (by decide) (.slice a K cap) K ((digs (s.data.toList.drop (J + 1))).map (Value.int .i64)) (by simp [Act.eval]) (by first | exact HO5.out _ | exact HO6.out _ | exact HO7.out _) ⟨wr.heap.size, 0, none⟩ 1 1 [.int .i64 dg] (by simp [Act.eval]) rfl (World.news_of_block (heap_alloc_new _ _)) (by simp [Value.oneCell']) (by decide) (by unfold maxLen; omega) (by omega) (by simp; omega) _ rfl ?_; intro g4 c4 w4 oa ga hat hlt4; have hb4 : Below (w.heap.size + 2) wr w4 := (by first | exact (((Below.refl (w.heap.size + 2) wr).alloc (by omega) _).drew).grown ga (by simp; omega) (fun g hg => (HLT.out g hg).1) | exact (((Below.refl (w.heap.size + 2) wr).drew).alloc (by simp; omega) _).grown ga (by simp; omega) (fun g hg => (HLT.out g hg).1)); have C0 := (hb4.cell (by simp)).trans c0; have C1 := (hb4.cell (by simp)).trans c1; have F0 := (hb4.frozen (by simp)).trans f0; have F1 := (hb4.frozen (by simp)).trans f1; have D0 := (hb4.cell (by simp)).trans d0; have D1 := (hb4.cell (by simp)).trans d1; have G0 := (hb4.frozen (by simp)).trans g0; have G1 := (hb4.frozen (by simp)).trans g1; have HB4 := Lib.hid (hB.out.trans (hb4.mono (by omega))); have OA := Lib.hid oa; clear oa ga hat hb4 c0 c1 f0 f1 d0 d1 g0 g1))
              all_goals
                go_wp2_with fail
                go_roundw
                case rel => exact ⟨J, K + 1, _, c4, by omega, by omega, by omega, by omega, by go_num, HAL, (World.cell?_setCell_other _ _ _ _ (by simp)).trans C0, World.cell?_setCell_same _ _ _ C1, (frozen_set _ _ _ _).trans F0, (frozen_set _ _ _ _).trans F1, (World.cell?_setCell_other _ _ _ _ (by simp)).trans D0, (World.cell?_setCell_other _ _ _ _ (by simp)).trans D1, (frozen_set _ _ _ _).trans G0, (frozen_set _ _ _ _).trans G1, Lib.hid (by rw [HDS.out]; exact ownsRow_setCell_below OA.out (a := ⟨w.heap.size + 1, 1, none⟩) (by simp) _), Lib.hid (HB4.out.setCell (p := ⟨w.heap.size + 1, 1, none⟩) (by simp) _)⟩
                case measure => simp [intOf] <;> omega
            · have hNum : isNum s.data.toList = false := by
                unfold isNum
                have : (bodyT s.data.toList).all isDig = false := List.all_eq_false.2 ⟨c, HBD.out, by rw [isDig_iff]; exact hdg⟩
                rw [this, Bool.and_false]
              obtain rfl : N = 0 := by rw [HN.out]; unfold nP; rw [hNum]; rfl
              obtain rfl : E = 1 := by rw [HE.out]; unfold eP; rw [hNum]; rfl
              clear HN HE hNum HBD HD hall hO
              rcases (by omega : (c.toNat : Int) < 48 ∨ ((48 : Int) ≤ c.toNat ∧ (57 : Int) < c.toNat)) with hlo | ⟨hhi0, hhi⟩
              all_goals
                clear hdg
                go_wp2_with fail
                have e0 : ((wr.setCell ⟨w.heap.size, 0, none⟩ (.bool false)).setCell ⟨w.heap.size, 1, none⟩ (.slice none 0 0)).cell? ⟨w.heap.size, 0, none⟩ = some (.bool false) := by
                  rw [World.cell?_setCell_other _ _ _ _ (by simp)]; exact World.cell?_setCell_same _ _ _ d0
                have e1 : ((wr.setCell ⟨w.heap.size, 0, none⟩ (.bool false)).setCell ⟨w.heap.size, 1, none⟩ (.slice none 0 0)).cell? ⟨w.heap.size, 1, none⟩ = some (.slice none 0 0) :=
                  World.cell?_setCell_same _ _ _ (by rw [World.cell?_setCell_other _ _ _ _ (by simp)]; exact d1)
                refine bodyPost_ret (v := .tuple #[.agg #[.bool false, .slice none 0 0], .int .i64 1]) (by simp [results, Tryz.results24, go_sem, e0, e1]) rfl ?_
                exact ⟨_, rfl, big_zero _, (hB.out.setCell (p := ⟨w.heap.size, 0, none⟩) (by simp) _).setCell (p := ⟨w.heap.size, 1, none⟩) (by simp) _⟩

    by_cases h45 : c.toNat = 45
    · have hB0 : bodyT s.data.toList = s.data.toList.drop 1 := by rw [hL]; show (if c.toNat = 43 ∨ c.toNat = 45 then r else c :: r) = r; rw [if_pos (by omega)]
      have hS0 : negT s.data.toList = true := by rw [hL]; show decide (c.toNat = 45) = _; rw [h45]; rfl
      have HB := Lib.hid hB0
      have HS := Lib.hid hS0
      by_cases hr : s.size = 1
      · have hNum : isNum s.data.toList = false := by
          unfold isNum
          rw [hB0, List.drop_eq_nil_of_le (by rw [← Lib.size_eq]; omega)]; rfl
        obtain rfl : N = 0 := by rw [HN.out]; unfold nP; rw [hNum]; rfl
        obtain rfl : E = 1 := by rw [HE.out]; unfold eP; rw [hNum]; rfl
        clear HN HE hNum hB0 hS0 hL
        have hc : (c.toNat : Int) = 45 := by omega
        go_enter Tryz.func24, Tryz.ntmps24
        go_wp2_with fail
        refine bodyPost_ret (v := .tuple #[.agg #[.bool false, .slice none 0 0], .int .i64 1]) (by simp [results, Tryz.results24, go_sem]) rfl ?_
        exact ⟨_, rfl, big_zero _, by go_grown⟩
      · have HNE : Hid ((s.data.toList.drop 1).isEmpty = false) := Lib.hid (by
          rw [List.isEmpty_eq_false_iff]
          intro hh
          have := congrArg List.length hh
          rw [List.length_drop, ← Lib.size_eq] at this
          simp at this; omega)
        have hr2 : ((s.size : Int) == 1) = false := by rw [beq_eq_false_iff_ne]; omega
        have hr3 : 1 < s.size := by omega
        clear hB0 hS0 hL hr
        have hc : (c.toNat : Int) = 45 := by omega
        clear h45
        go_enter Tryz.func24, Tryz.ntmps24
        go_wp2_with fail
        go_loopw [6] (fun x wr => ∃ (m K : Nat) (a : Option Addr) (cap : Nat), 1 ≤ m ∧ m ≤ s.size ∧ K + m ≤ s.size ∧ s.size ≤ K + m ∧ x = .int .i64 ((m : Int) - 1) ∧ Hid ((s.data.toList.drop m).all isDig = true) ∧
            wr.cell? ⟨w.heap.size + 1, 0, none⟩ = some (.bool true) ∧ wr.cell? ⟨w.heap.size + 1, 1, none⟩ = some (.slice a K cap) ∧ wr.frozen? ⟨w.heap.size + 1, 0, none⟩ = false ∧ wr.frozen? ⟨w.heap.size + 1, 1, none⟩ = false ∧
            wr.cell? ⟨w.heap.size, 0, none⟩ = some (.bool false) ∧ wr.cell? ⟨w.heap.size, 1, none⟩ = some (.slice none 0 0) ∧ wr.frozen? ⟨w.heap.size, 0, none⟩ = false ∧ wr.frozen? ⟨w.heap.size, 1, none⟩ = false ∧
            Hid (wr.ownsRow (w.heap.size + 2) 3 1 (.slice a K cap) K ((digs (s.data.toList.drop m)).map (Value.int .i64))) ∧ Hid (Below w.heap.size w wr)) (fun x _ => (intOf x + 1).toNat)
        case atStart =>
          refine ⟨s.size, 0, none, 0, by omega, by omega, by omega, by omega, by first | rfl | go_num, Lib.hid (by rw [List.drop_eq_nil_of_le (by simp)]; rfl), by simp [go_sem], by simp [go_sem], by simp [go_sem], by simp [go_sem], by simp [go_sem], by simp [go_sem], by simp [go_sem], by simp [go_sem], Lib.hid (by rw [List.drop_eq_nil_of_le (by simp)]; exact World.ownsRow_nil _ _ _ _), Lib.hid ?_⟩
          exact by go_grown
        case round =>
          obtain ⟨m, K, a, cap, hm1, hm2, hk1, hk2, rfl, hall, c0, c1, f0, f1, d0, d1, g0, g1, hO, hB⟩ := hrel
          by_cases hmf : m = 1
          · subst hmf
            have hB2 : bodyT s.data.toList = s.data.toList.drop 1 := HB.out
            have hNum : isNum s.data.toList = true := by unfold isNum; rw [hB2, hall.out, Bool.and_true, HNE.out]; rfl
            have HV : Hid (numV true (val (digs (s.data.toList.drop 1))) = numT s.data.toList) := Lib.hid (by rw [digs_val _ hall.out]; unfold numT numV; rw [hB2, HS.out])
            have HG := Lib.hid (digs_good _ hall.out)
            have hlen : (digs (s.data.toList.drop 1)).length = K := by rw [digs_len, List.length_drop, ← Lib.size_eq]; omega
            have HLN := Lib.hid hlen
            have h60 : szV (numT s.data.toList) < ten 6000 := by
              have := mag_wide _ hall.out (by rw [List.length_drop, ← Lib.size_eq]; omega)
              unfold numT
              rw [hB2]
              split
              · exact this.2
              · exact this.1
            have H60 := Lib.hid h60
            have hK60 : K ≤ 6000 := by omega
            obtain ⟨k1, k2, hda⟩ := digA_own (by rw [hlen]; exact hO.out)
            rw [hlen] at k1
            have HDA := Lib.hid hda
            have HGE : Hid (∀ g off, a = some ⟨g, off, none⟩ → w.heap.size + 2 ≤ g) := Lib.hid (fun g off h => by
              rcases hO.out with ⟨_, ⟨h1, _⟩ | ⟨g', cap', cur, h1, h2, _⟩⟩
              · cases h1; cases h
              · cases h1; cases h; exact h2)
            have HNum := Lib.hid hNum
            clear hlen hda hO hall h60 hB2 hNum
            have TR := Lib.hid (fun w (h : DigA w a (digs (s.data.toList.drop 1))) => trim_any true a cap (digs (s.data.toList.drop 1)) w (by rw [HLN.out]; omega) HG.out (by rw [HLN.out]; exact k1) k2 h)
            rw [HLN.out, HV.out] at TR
            obtain ⟨X, hX⟩ : ∃ X, X = numT s.data.toList := ⟨_, rfl⟩
            rw [← hX] at TR
            have HX := Lib.hid hX
            clear hX
            go_wp2_with fail
            refine (TR.out _ HDA.out).mono ?_
            rintro e w2 ⟨k, hk, rfl, G2, N2, V2, hb2⟩
            rw [HLN.out] at hk
            have C0 := cell_below c0 hb2
            have C1 := cell_below c1 hb2
            have F0 := frozen_below f0 c0 hb2
            have F1 := frozen_below f1 c1 hb2
            have D0 := cell_below d0 hb2
            have D1 := cell_below d1 hb2
            have E0 := frozen_below g0 d0 hb2
            have E1 := frozen_below g1 d1 hb2
            have HDB := Lib.hid (digA_below HDA.out hb2)
            have HB2 := Lib.hid (hB.out.trans (hb2.mono hB.out.size))
            have HG2 := Lib.hid G2; have HN2 := Lib.hid N2; have HV2 := Lib.hid V2
            clear G2 N2 V2 hb2 c0 c1 f0 f1 d0 d1 g0 g1 TR hB HDA
            obtain ⟨sx, hsx⟩ : ∃ sx, sx = decide (X < 0) := ⟨_, rfl⟩
            rw [← hsx]
            have HSX := Lib.hid hsx
            clear hsx
            obtain ⟨FB, hFB⟩ : ∃ FB, FB = fitsV X := ⟨_, rfl⟩
            have HFB := Lib.hid hFB
            have FT := Lib.hid (fun w (h : BigV w (.agg #[.bool sx, .slice a k cap]) X) => fits_any X _ w (by rw [HX.out]; exact H60.out) h)
            rw [← hFB] at FT
            clear hFB
            go_wp2_with fail
            have Z3 := Lib.hid ((HB2.out.setCell (p := ⟨w.heap.size + 1, 0, none⟩) (by simp) (.bool sx)).setCell (p := ⟨w.heap.size + 1, 1, none⟩) (by simp) (.slice a k cap))
            have C0' : ((w2.setCell ⟨w.heap.size + 1, 0, none⟩ (.bool sx)).setCell ⟨w.heap.size + 1, 1, none⟩ (.slice a k cap)).cell? ⟨w.heap.size + 1, 0, none⟩ = some (.bool sx) := by
              rw [World.cell?_setCell_other _ _ _ _ (by simp)]; exact World.cell?_setCell_same _ _ _ C0
            have C1' : ((w2.setCell ⟨w.heap.size + 1, 0, none⟩ (.bool sx)).setCell ⟨w.heap.size + 1, 1, none⟩ (.slice a k cap)).cell? ⟨w.heap.size + 1, 1, none⟩ = some (.slice a k cap) :=
              World.cell?_setCell_same _ _ _ ((World.cell?_setCell_other _ _ _ _ (by simp)).trans C1)
            have D0' : ((w2.setCell ⟨w.heap.size + 1, 0, none⟩ (.bool sx)).setCell ⟨w.heap.size + 1, 1, none⟩ (.slice a k cap)).cell? ⟨w.heap.size, 0, none⟩ = some (.bool false) :=
              ((World.cell?_setCell_other _ _ _ _ (by simp)).trans (World.cell?_setCell_other _ _ _ _ (by simp))).trans D0
            have D1' : ((w2.setCell ⟨w.heap.size + 1, 0, none⟩ (.bool sx)).setCell ⟨w.heap.size + 1, 1, none⟩ (.slice a k cap)).cell? ⟨w.heap.size, 1, none⟩ = some (.slice none 0 0) :=
              ((World.cell?_setCell_other _ _ _ _ (by simp)).trans (World.cell?_setCell_other _ _ _ _ (by simp))).trans D1
            have E0' : ((w2.setCell ⟨w.heap.size + 1, 0, none⟩ (.bool sx)).setCell ⟨w.heap.size + 1, 1, none⟩ (.slice a k cap)).frozen? ⟨w.heap.size, 0, none⟩ = false := ((frozen_set _ _ _ _).trans (frozen_set _ _ _ _)).trans E0
            have E1' : ((w2.setCell ⟨w.heap.size + 1, 0, none⟩ (.bool sx)).setCell ⟨w.heap.size + 1, 1, none⟩ (.slice a k cap)).frozen? ⟨w.heap.size, 1, none⟩ = false := ((frozen_set _ _ _ _).trans (frozen_set _ _ _ _)).trans E1
            have HBV : Hid (BigV ((w2.setCell ⟨w.heap.size + 1, 0, none⟩ (.bool sx)).setCell ⟨w.heap.size + 1, 1, none⟩ (.slice a k cap)) (.agg #[.bool sx, .slice a k cap]) X) := Lib.hid (by
              rw [HSX.out]
              refine bigV_take (ds := digs (s.data.toList.drop 1)) (by rw [HLN.out]; exact hk) (by rw [HLN.out]; exact k1) k2 ?_ HG2.out HN2.out HV2.out
              intro j hj
              obtain ⟨g, off, h1, h2⟩ := HDB.out j hj
              refine ⟨g, off, h1, ?_⟩
              have hgb : w.heap.size + 2 ≤ g := HGE.out g off h1
              rw [World.cell?_setCell_other _ _ _ _ (by simp <;> omega), World.cell?_setCell_other _ _ _ _ (by simp <;> omega)]
              exact h2)
            generalize ((w2.setCell ⟨w.heap.size + 1, 0, none⟩ (.bool sx)).setCell ⟨w.heap.size + 1, 1, none⟩ (.slice a k cap)) = w3 at *
            clear C0 C1 F0 F1 D0 D1 E0 E1 HDB HB2
            refine (FT.out _ HBV.out).mono ?_
            rintro e w5 ⟨rfl, hb5⟩
            replace C0' := cell_below C0' hb5
            replace C1' := cell_below C1' hb5
            replace E0' := frozen_below E0' D0' hb5
            replace E1' := frozen_below E1' D1' hb5
            replace D0' := cell_below D0' hb5
            replace D1' := cell_below D1' hb5
            replace HBV := Lib.hid (bigV_below HBV.out hb5)
            replace Z3 := Lib.hid (Z3.out.trans (hb5.mono Z3.out.size))
            clear hb5 FT
            have hfs : fits X = fitsV X := by unfold fitsV fits; simp
            cases hfb : FB with
            | true =>
              subst hfb
              have hf : fits (numT s.data.toList) = true := by rw [← HX.out, hfs]; exact HFB.out.symm
              have hNX : N = X := by rw [HN.out]; unfold nP; rw [HNum.out, hf, HX.out]; rfl
              obtain rfl : E = 0 := by rw [HE.out]; unfold eP; rw [HNum.out, hf]; rfl
              have HNX := Lib.hid hNX
              clear hf hfs hNX HN HE
              go_wp2_with fail
              have e0 : ((w5.setCell ⟨w.heap.size, 0, none⟩ (.bool sx)).setCell ⟨w.heap.size, 1, none⟩ (.slice a k cap)).cell? ⟨w.heap.size, 0, none⟩ = some (.bool sx) := by
                rw [World.cell?_setCell_other _ _ _ _ (by simp)]; exact World.cell?_setCell_same _ _ _ D0'
              have e1 : ((w5.setCell ⟨w.heap.size, 0, none⟩ (.bool sx)).setCell ⟨w.heap.size, 1, none⟩ (.slice a k cap)).cell? ⟨w.heap.size, 1, none⟩ = some (.slice a k cap) :=
                World.cell?_setCell_same _ _ _ ((World.cell?_setCell_other _ _ _ _ (by simp)).trans D1')
              refine bodyPost_ret (v := .tuple #[.agg #[.bool sx, .slice a k cap], .int .i64 0]) (by simp [results, Tryz.results24, go_sem, e0, e1]) rfl ?_
              refine ⟨_, rfl, ?_, (Z3.out.setCell (p := ⟨w.heap.size, 0, none⟩) (by simp) _).setCell (p := ⟨w.heap.size, 1, none⟩) (by simp) _⟩
              rw [HNX.out]
              exact bigV_set HBV.out (fun g off h => HGE.out g off h)
            | false =>
              subst hfb
              have hf : fits (numT s.data.toList) = false := by rw [← HX.out, hfs]; exact HFB.out.symm
              obtain rfl : N = 0 := by rw [HN.out]; unfold nP; rw [HNum.out, hf]; rfl
              obtain rfl : E = 9 := by rw [HE.out]; unfold eP; rw [HNum.out, hf]; rfl
              clear hf hfs HN HE
              go_wp2_with fail
              have e0 : ((w5.setCell ⟨w.heap.size, 0, none⟩ (.bool false)).setCell ⟨w.heap.size, 1, none⟩ (.slice none 0 0)).cell? ⟨w.heap.size, 0, none⟩ = some (.bool false) := by
                rw [World.cell?_setCell_other _ _ _ _ (by simp)]; exact World.cell?_setCell_same _ _ _ D0'
              have e1 : ((w5.setCell ⟨w.heap.size, 0, none⟩ (.bool false)).setCell ⟨w.heap.size, 1, none⟩ (.slice none 0 0)).cell? ⟨w.heap.size, 1, none⟩ = some (.slice none 0 0) :=
                World.cell?_setCell_same _ _ _ ((World.cell?_setCell_other _ _ _ _ (by simp)).trans D1')
              refine bodyPost_ret (v := .tuple #[.agg #[.bool false, .slice none 0 0], .int .i64 9]) (by simp [results, Tryz.results24, go_sem, e0, e1]) rfl ?_
              exact ⟨_, rfl, big_zero _, (Z3.out.setCell (p := ⟨w.heap.size, 0, none⟩) (by simp) _).setCell (p := ⟨w.heap.size, 1, none⟩) (by simp) _⟩
          · obtain ⟨J, rfl⟩ : ∃ J, m = J + 1 := ⟨m - 1, by omega⟩
            have hJl : J < s.data.toList.length := by rw [← Lib.size_eq]; omega
            obtain ⟨c, hc⟩ : ∃ c, c = s.data.toList[J]'hJl := ⟨_, rfl⟩
            have HD : Hid (s.data.toList.drop J = c :: s.data.toList.drop (J + 1)) := Lib.hid (by rw [hc]; exact List.drop_eq_getElem_cons hJl)
            have hJ : J < s.size := by omega
            have hgJ : s[J]'hJ = c := by rw [hc]; rfl
            have hcb : c.toNat < 256 := c.toNat_lt
            have HBD : Hid (c ∈ bodyT s.data.toList) := Lib.hid (by
              rw [HB.out]
              have h1 : c ∈ s.data.toList.drop J := by rw [HD.out]; exact List.mem_cons_self
              have h2 : s.data.toList.drop J = (s.data.toList.drop 1).drop (J - 1) := by rw [List.drop_drop]; congr 1; omega
              rw [h2] at h1
              exact List.mem_of_mem_drop h1)
            clear hc hJl
            rw [show ((J + 1 : Nat) : Int) - 1 = (J : Int) from by omega]
            by_cases hdg : 48 ≤ c.toNat ∧ c.toNat ≤ 57
            · obtain ⟨dg, hdg1⟩ : ∃ dg : Int, (c.toNat : Int) = dg + 48 := ⟨(c.toNat : Int) - 48, by omega⟩
              have hl0 : (48 : Int) ≤ c.toNat := by omega
              have hl1 : (c.toNat : Int) ≤ 57 := by omega
              have hdg2 : (0 : Int) ≤ dg := by omega
              have hdg3 : dg ≤ 9 := by omega
              have HAL : Hid ((s.data.toList.drop J).all isDig = true) := Lib.hid (by rw [HD.out, List.all_cons, hall.out, (isDig_iff c).2 hdg]; rfl)
              have HDS : Hid ((digs (s.data.toList.drop J)).map (Value.int .i64) = (digs (s.data.toList.drop (J + 1))).map (Value.int .i64) ++ [.int .i64 dg]) := Lib.hid (by
                rw [HD.out, digs_snoc, List.map_append, show (c.toNat : Int) - 48 = dg from by omega]; rfl)
              have hw1 : IntKind.u8.wrap ((c.toNat : Int) - 48) = dg := by rw [show (c.toNat : Int) - 48 = dg from by omega]; exact IntWalk.u8_in _ ⟨by omega, by omega⟩
              have hw2 : IntKind.i64.wrap dg = dg := IntWalk.i64_in _ ⟨by omega, by omega⟩
              have HO5 := Lib.hid (fun (o : Obj) => ((hO.out.alloc o).drew))
              have HO6 := Lib.hid (fun (o : Obj) => ((hO.out.drew).alloc o))
              have HO7 := Lib.hid (fun (o : Obj) => (hO.out.alloc o))
              have hlt := hO.out.lt
              have HLT := Lib.hid hlt
              have hsz2 : w.heap.size + 1 < wr.heap.size := block_lt_of_cell c0
              clear hdg hO hlt HBD hall hdg1
              go_wp2_with fail
              go_region_law ((refine step_append_lies _ rfl (.tmp 50) (.tmp 56) 35 rfl (w.heap.size + 2) 3 i0 (.int .i64 0) 1 8 Tryz.underlying35 hi hz0 hz1 hz2 rfl (by decide) (.slice a K cap) K ((digs (s.data.toList.drop (J + 1))).map (Value.int .i64)) (by simp [Act.eval]) (by first | exact HO5.out _ | exact HO6.out _ | exact HO7.out _) ⟨wr.heap.size, 0, none⟩ 1 1 [.int .i64 dg] (by simp [Act.eval]) rfl (World.news_of_block (heap_alloc_new _ _)) (by simp [Value.oneCell']) (by decide) (by unfold maxLen; omega) (by omega) (by simp; omega) _ rfl ?_; intro g4 c4 w4 oa ga hat hlt4; have hb4 : Below (w.heap.size + 2) wr w4 := (by first | exact (((Below.refl (w.heap.size + 2) wr).alloc (by omega) _).drew).grown ga (by simp; omega) (fun g hg => (HLT.out g hg).1) | exact (((Below.refl (w.heap.size + 2) wr).drew).alloc (by simp; omega) _).grown ga (by simp; omega) (fun g hg => (HLT.out g hg).1)); have C0 := (hb4.cell (by simp)).trans c0; have C1 := (hb4.cell (by simp)).trans c1; have F0 := (hb4.frozen (by simp)).trans f0; have F1 := (hb4.frozen (by simp)).trans f1; have D0 := (hb4.cell (by simp)).trans d0; have D1 := (hb4.cell (by simp)).trans d1; have G0 := (hb4.frozen (by simp)).trans g0; have G1 := (hb4.frozen (by simp)).trans g1; have HB4 := Lib.hid (hB.out.trans (hb4.mono (by omega))); have OA := Lib.hid oa; clear oa ga hat hb4 c0 c1 f0 f1 d0 d1 g0 g1))
              all_goals
                go_wp2_with fail
                go_roundw
                case rel => exact ⟨J, K + 1, _, c4, by omega, by omega, by omega, by omega, by go_num, HAL, (World.cell?_setCell_other _ _ _ _ (by simp)).trans C0, World.cell?_setCell_same _ _ _ C1, (frozen_set _ _ _ _).trans F0, (frozen_set _ _ _ _).trans F1, (World.cell?_setCell_other _ _ _ _ (by simp)).trans D0, (World.cell?_setCell_other _ _ _ _ (by simp)).trans D1, (frozen_set _ _ _ _).trans G0, (frozen_set _ _ _ _).trans G1, Lib.hid (by rw [HDS.out]; exact ownsRow_setCell_below OA.out (a := ⟨w.heap.size + 1, 1, none⟩) (by simp) _), Lib.hid (HB4.out.setCell (p := ⟨w.heap.size + 1, 1, none⟩) (by simp) _)⟩
                case measure => simp [intOf] <;> omega
            · have hNum : isNum s.data.toList = false := by
                unfold isNum
                have : (bodyT s.data.toList).all isDig = false := List.all_eq_false.2 ⟨c, HBD.out, by rw [isDig_iff]; exact hdg⟩
                rw [this, Bool.and_false]
              obtain rfl : N = 0 := by rw [HN.out]; unfold nP; rw [hNum]; rfl
              obtain rfl : E = 1 := by rw [HE.out]; unfold eP; rw [hNum]; rfl
              clear HN HE hNum HBD HD hall hO
              rcases (by omega : (c.toNat : Int) < 48 ∨ ((48 : Int) ≤ c.toNat ∧ (57 : Int) < c.toNat)) with hlo | ⟨hhi0, hhi⟩
              all_goals
                clear hdg
                go_wp2_with fail
                have e0 : ((wr.setCell ⟨w.heap.size, 0, none⟩ (.bool false)).setCell ⟨w.heap.size, 1, none⟩ (.slice none 0 0)).cell? ⟨w.heap.size, 0, none⟩ = some (.bool false) := by
                  rw [World.cell?_setCell_other _ _ _ _ (by simp)]; exact World.cell?_setCell_same _ _ _ d0
                have e1 : ((wr.setCell ⟨w.heap.size, 0, none⟩ (.bool false)).setCell ⟨w.heap.size, 1, none⟩ (.slice none 0 0)).cell? ⟨w.heap.size, 1, none⟩ = some (.slice none 0 0) :=
                  World.cell?_setCell_same _ _ _ (by rw [World.cell?_setCell_other _ _ _ _ (by simp)]; exact d1)
                refine bodyPost_ret (v := .tuple #[.agg #[.bool false, .slice none 0 0], .int .i64 1]) (by simp [results, Tryz.results24, go_sem, e0, e1]) rfl ?_
                exact ⟨_, rfl, big_zero _, (hB.out.setCell (p := ⟨w.heap.size, 0, none⟩) (by simp) _).setCell (p := ⟨w.heap.size, 1, none⟩) (by simp) _⟩

    · have hB0 : bodyT s.data.toList = s.data.toList.drop 0 := by rw [hL]; show (if c.toNat = 43 ∨ c.toNat = 45 then r else c :: r) = c :: r; rw [if_neg (by omega)]
      have hS0 : negT s.data.toList = false := by rw [hL]; show decide (c.toNat = 45) = _; rw [decide_eq_false h45]
      have HB := Lib.hid hB0
      have HS := Lib.hid hS0
      have HNE : Hid ((s.data.toList.drop 0).isEmpty = false) := Lib.hid (by rw [hL]; rfl)
      have hc1 : ((c.toNat : Int) == 43) = false := by rw [beq_eq_false_iff_ne]; omega
      have hc2 : ((c.toNat : Int) == 45) = false := by rw [beq_eq_false_iff_ne]; omega
      have hr2 : ((s.size : Int) == 0) = false := by rw [beq_eq_false_iff_ne]; omega
      clear hB0 hS0 hL
      go_enter Tryz.func24, Tryz.ntmps24
      go_wp2_with fail
      go_loopw [6] (fun x wr => ∃ (m K : Nat) (a : Option Addr) (cap : Nat), 0 ≤ m ∧ m ≤ s.size ∧ K + m ≤ s.size ∧ s.size ≤ K + m ∧ x = .int .i64 ((m : Int) - 1) ∧ Hid ((s.data.toList.drop m).all isDig = true) ∧
          wr.cell? ⟨w.heap.size + 1, 0, none⟩ = some (.bool false) ∧ wr.cell? ⟨w.heap.size + 1, 1, none⟩ = some (.slice a K cap) ∧ wr.frozen? ⟨w.heap.size + 1, 0, none⟩ = false ∧ wr.frozen? ⟨w.heap.size + 1, 1, none⟩ = false ∧
          wr.cell? ⟨w.heap.size, 0, none⟩ = some (.bool false) ∧ wr.cell? ⟨w.heap.size, 1, none⟩ = some (.slice none 0 0) ∧ wr.frozen? ⟨w.heap.size, 0, none⟩ = false ∧ wr.frozen? ⟨w.heap.size, 1, none⟩ = false ∧
          Hid (wr.ownsRow (w.heap.size + 2) 3 1 (.slice a K cap) K ((digs (s.data.toList.drop m)).map (Value.int .i64))) ∧ Hid (Below w.heap.size w wr)) (fun x _ => (intOf x + 1).toNat)
      case atStart =>
        refine ⟨s.size, 0, none, 0, by omega, by omega, by omega, by omega, by first | rfl | go_num, Lib.hid (by rw [List.drop_eq_nil_of_le (by simp)]; rfl), by simp [go_sem], by simp [go_sem], by simp [go_sem], by simp [go_sem], by simp [go_sem], by simp [go_sem], by simp [go_sem], by simp [go_sem], Lib.hid (by rw [List.drop_eq_nil_of_le (by simp)]; exact World.ownsRow_nil _ _ _ _), Lib.hid ?_⟩
        exact by go_grown
      case round =>
        obtain ⟨m, K, a, cap, hm1, hm2, hk1, hk2, rfl, hall, c0, c1, f0, f1, d0, d1, g0, g1, hO, hB⟩ := hrel
        by_cases hmf : m = 0
        · subst hmf
          have hB2 : bodyT s.data.toList = s.data.toList.drop 0 := HB.out
          have hNum : isNum s.data.toList = true := by unfold isNum; rw [hB2, hall.out, Bool.and_true, HNE.out]; rfl
          have HV : Hid (numV false (val (digs (s.data.toList.drop 0))) = numT s.data.toList) := Lib.hid (by rw [digs_val _ hall.out]; unfold numT numV; rw [hB2, HS.out])
          have HG := Lib.hid (digs_good _ hall.out)
          have hlen : (digs (s.data.toList.drop 0)).length = K := by rw [digs_len, List.length_drop, ← Lib.size_eq]; omega
          have HLN := Lib.hid hlen
          have h60 : szV (numT s.data.toList) < ten 6000 := by
            have := mag_wide _ hall.out (by rw [List.length_drop, ← Lib.size_eq]; omega)
            unfold numT
            rw [hB2]
            split
            · exact this.2
            · exact this.1
          have H60 := Lib.hid h60
          have hK60 : K ≤ 6000 := by omega
          obtain ⟨k1, k2, hda⟩ := digA_own (by rw [hlen]; exact hO.out)
          rw [hlen] at k1
          have HDA := Lib.hid hda
          have HGE : Hid (∀ g off, a = some ⟨g, off, none⟩ → w.heap.size + 2 ≤ g) := Lib.hid (fun g off h => by
            rcases hO.out with ⟨_, ⟨h1, _⟩ | ⟨g', cap', cur, h1, h2, _⟩⟩
            · cases h1; cases h
            · cases h1; cases h; exact h2)
          have HNum := Lib.hid hNum
          clear hlen hda hO hall h60 hB2 hNum
          have TR := Lib.hid (fun w (h : DigA w a (digs (s.data.toList.drop 0))) => trim_any false a cap (digs (s.data.toList.drop 0)) w (by rw [HLN.out]; omega) HG.out (by rw [HLN.out]; exact k1) k2 h)
          rw [HLN.out, HV.out] at TR
          obtain ⟨X, hX⟩ : ∃ X, X = numT s.data.toList := ⟨_, rfl⟩
          rw [← hX] at TR
          have HX := Lib.hid hX
          clear hX
          go_wp2_with fail
          refine (TR.out _ HDA.out).mono ?_
          rintro e w2 ⟨k, hk, rfl, G2, N2, V2, hb2⟩
          rw [HLN.out] at hk
          have C0 := cell_below c0 hb2
          have C1 := cell_below c1 hb2
          have F0 := frozen_below f0 c0 hb2
          have F1 := frozen_below f1 c1 hb2
          have D0 := cell_below d0 hb2
          have D1 := cell_below d1 hb2
          have E0 := frozen_below g0 d0 hb2
          have E1 := frozen_below g1 d1 hb2
          have HDB := Lib.hid (digA_below HDA.out hb2)
          have HB2 := Lib.hid (hB.out.trans (hb2.mono hB.out.size))
          have HG2 := Lib.hid G2; have HN2 := Lib.hid N2; have HV2 := Lib.hid V2
          clear G2 N2 V2 hb2 c0 c1 f0 f1 d0 d1 g0 g1 TR hB HDA
          obtain ⟨sx, hsx⟩ : ∃ sx, sx = decide (X < 0) := ⟨_, rfl⟩
          rw [← hsx]
          have HSX := Lib.hid hsx
          clear hsx
          obtain ⟨FB, hFB⟩ : ∃ FB, FB = fitsV X := ⟨_, rfl⟩
          have HFB := Lib.hid hFB
          have FT := Lib.hid (fun w (h : BigV w (.agg #[.bool sx, .slice a k cap]) X) => fits_any X _ w (by rw [HX.out]; exact H60.out) h)
          rw [← hFB] at FT
          clear hFB
          go_wp2_with fail
          have Z3 := Lib.hid ((HB2.out.setCell (p := ⟨w.heap.size + 1, 0, none⟩) (by simp) (.bool sx)).setCell (p := ⟨w.heap.size + 1, 1, none⟩) (by simp) (.slice a k cap))
          have C0' : ((w2.setCell ⟨w.heap.size + 1, 0, none⟩ (.bool sx)).setCell ⟨w.heap.size + 1, 1, none⟩ (.slice a k cap)).cell? ⟨w.heap.size + 1, 0, none⟩ = some (.bool sx) := by
            rw [World.cell?_setCell_other _ _ _ _ (by simp)]; exact World.cell?_setCell_same _ _ _ C0
          have C1' : ((w2.setCell ⟨w.heap.size + 1, 0, none⟩ (.bool sx)).setCell ⟨w.heap.size + 1, 1, none⟩ (.slice a k cap)).cell? ⟨w.heap.size + 1, 1, none⟩ = some (.slice a k cap) :=
            World.cell?_setCell_same _ _ _ ((World.cell?_setCell_other _ _ _ _ (by simp)).trans C1)
          have D0' : ((w2.setCell ⟨w.heap.size + 1, 0, none⟩ (.bool sx)).setCell ⟨w.heap.size + 1, 1, none⟩ (.slice a k cap)).cell? ⟨w.heap.size, 0, none⟩ = some (.bool false) :=
            ((World.cell?_setCell_other _ _ _ _ (by simp)).trans (World.cell?_setCell_other _ _ _ _ (by simp))).trans D0
          have D1' : ((w2.setCell ⟨w.heap.size + 1, 0, none⟩ (.bool sx)).setCell ⟨w.heap.size + 1, 1, none⟩ (.slice a k cap)).cell? ⟨w.heap.size, 1, none⟩ = some (.slice none 0 0) :=
            ((World.cell?_setCell_other _ _ _ _ (by simp)).trans (World.cell?_setCell_other _ _ _ _ (by simp))).trans D1
          have E0' : ((w2.setCell ⟨w.heap.size + 1, 0, none⟩ (.bool sx)).setCell ⟨w.heap.size + 1, 1, none⟩ (.slice a k cap)).frozen? ⟨w.heap.size, 0, none⟩ = false := ((frozen_set _ _ _ _).trans (frozen_set _ _ _ _)).trans E0
          have E1' : ((w2.setCell ⟨w.heap.size + 1, 0, none⟩ (.bool sx)).setCell ⟨w.heap.size + 1, 1, none⟩ (.slice a k cap)).frozen? ⟨w.heap.size, 1, none⟩ = false := ((frozen_set _ _ _ _).trans (frozen_set _ _ _ _)).trans E1
          have HBV : Hid (BigV ((w2.setCell ⟨w.heap.size + 1, 0, none⟩ (.bool sx)).setCell ⟨w.heap.size + 1, 1, none⟩ (.slice a k cap)) (.agg #[.bool sx, .slice a k cap]) X) := Lib.hid (by
            rw [HSX.out]
            refine bigV_take (ds := digs (s.data.toList.drop 0)) (by rw [HLN.out]; exact hk) (by rw [HLN.out]; exact k1) k2 ?_ HG2.out HN2.out HV2.out
            intro j hj
            obtain ⟨g, off, h1, h2⟩ := HDB.out j hj
            refine ⟨g, off, h1, ?_⟩
            have hgb : w.heap.size + 2 ≤ g := HGE.out g off h1
            rw [World.cell?_setCell_other _ _ _ _ (by simp <;> omega), World.cell?_setCell_other _ _ _ _ (by simp <;> omega)]
            exact h2)
          generalize ((w2.setCell ⟨w.heap.size + 1, 0, none⟩ (.bool sx)).setCell ⟨w.heap.size + 1, 1, none⟩ (.slice a k cap)) = w3 at *
          clear C0 C1 F0 F1 D0 D1 E0 E1 HDB HB2
          refine (FT.out _ HBV.out).mono ?_
          rintro e w5 ⟨rfl, hb5⟩
          replace C0' := cell_below C0' hb5
          replace C1' := cell_below C1' hb5
          replace E0' := frozen_below E0' D0' hb5
          replace E1' := frozen_below E1' D1' hb5
          replace D0' := cell_below D0' hb5
          replace D1' := cell_below D1' hb5
          replace HBV := Lib.hid (bigV_below HBV.out hb5)
          replace Z3 := Lib.hid (Z3.out.trans (hb5.mono Z3.out.size))
          clear hb5 FT
          have hfs : fits X = fitsV X := by unfold fitsV fits; simp
          cases hfb : FB with
          | true =>
            subst hfb
            have hf : fits (numT s.data.toList) = true := by rw [← HX.out, hfs]; exact HFB.out.symm
            have hNX : N = X := by rw [HN.out]; unfold nP; rw [HNum.out, hf, HX.out]; rfl
            obtain rfl : E = 0 := by rw [HE.out]; unfold eP; rw [HNum.out, hf]; rfl
            have HNX := Lib.hid hNX
            clear hf hfs hNX HN HE
            go_wp2_with fail
            have e0 : ((w5.setCell ⟨w.heap.size, 0, none⟩ (.bool sx)).setCell ⟨w.heap.size, 1, none⟩ (.slice a k cap)).cell? ⟨w.heap.size, 0, none⟩ = some (.bool sx) := by
              rw [World.cell?_setCell_other _ _ _ _ (by simp)]; exact World.cell?_setCell_same _ _ _ D0'
            have e1 : ((w5.setCell ⟨w.heap.size, 0, none⟩ (.bool sx)).setCell ⟨w.heap.size, 1, none⟩ (.slice a k cap)).cell? ⟨w.heap.size, 1, none⟩ = some (.slice a k cap) :=
              World.cell?_setCell_same _ _ _ ((World.cell?_setCell_other _ _ _ _ (by simp)).trans D1')
            refine bodyPost_ret (v := .tuple #[.agg #[.bool sx, .slice a k cap], .int .i64 0]) (by simp [results, Tryz.results24, go_sem, e0, e1]) rfl ?_
            refine ⟨_, rfl, ?_, (Z3.out.setCell (p := ⟨w.heap.size, 0, none⟩) (by simp) _).setCell (p := ⟨w.heap.size, 1, none⟩) (by simp) _⟩
            rw [HNX.out]
            exact bigV_set HBV.out (fun g off h => HGE.out g off h)
          | false =>
            subst hfb
            have hf : fits (numT s.data.toList) = false := by rw [← HX.out, hfs]; exact HFB.out.symm
            obtain rfl : N = 0 := by rw [HN.out]; unfold nP; rw [HNum.out, hf]; rfl
            obtain rfl : E = 9 := by rw [HE.out]; unfold eP; rw [HNum.out, hf]; rfl
            clear hf hfs HN HE
            go_wp2_with fail
            have e0 : ((w5.setCell ⟨w.heap.size, 0, none⟩ (.bool false)).setCell ⟨w.heap.size, 1, none⟩ (.slice none 0 0)).cell? ⟨w.heap.size, 0, none⟩ = some (.bool false) := by
              rw [World.cell?_setCell_other _ _ _ _ (by simp)]; exact World.cell?_setCell_same _ _ _ D0'
            have e1 : ((w5.setCell ⟨w.heap.size, 0, none⟩ (.bool false)).setCell ⟨w.heap.size, 1, none⟩ (.slice none 0 0)).cell? ⟨w.heap.size, 1, none⟩ = some (.slice none 0 0) :=
              World.cell?_setCell_same _ _ _ ((World.cell?_setCell_other _ _ _ _ (by simp)).trans D1')
            refine bodyPost_ret (v := .tuple #[.agg #[.bool false, .slice none 0 0], .int .i64 9]) (by simp [results, Tryz.results24, go_sem, e0, e1]) rfl ?_
            exact ⟨_, rfl, big_zero _, (Z3.out.setCell (p := ⟨w.heap.size, 0, none⟩) (by simp) _).setCell (p := ⟨w.heap.size, 1, none⟩) (by simp) _⟩
        · obtain ⟨J, rfl⟩ : ∃ J, m = J + 1 := ⟨m - 1, by omega⟩
          have hJl : J < s.data.toList.length := by rw [← Lib.size_eq]; omega
          obtain ⟨c, hc⟩ : ∃ c, c = s.data.toList[J]'hJl := ⟨_, rfl⟩
          have HD : Hid (s.data.toList.drop J = c :: s.data.toList.drop (J + 1)) := Lib.hid (by rw [hc]; exact List.drop_eq_getElem_cons hJl)
          have hJ : J < s.size := by omega
          have hgJ : s[J]'hJ = c := by rw [hc]; rfl
          have hcb : c.toNat < 256 := c.toNat_lt
          have HBD : Hid (c ∈ bodyT s.data.toList) := Lib.hid (by
            rw [HB.out]
            have h1 : c ∈ s.data.toList.drop J := by rw [HD.out]; exact List.mem_cons_self
            have h2 : s.data.toList.drop J = (s.data.toList.drop 0).drop (J - 0) := by rw [List.drop_drop]; congr 1; omega
            rw [h2] at h1
            exact List.mem_of_mem_drop h1)
          clear hc hJl
          rw [show ((J + 1 : Nat) : Int) - 1 = (J : Int) from by omega]
          by_cases hdg : 48 ≤ c.toNat ∧ c.toNat ≤ 57
          · obtain ⟨dg, hdg1⟩ : ∃ dg : Int, (c.toNat : Int) = dg + 48 := ⟨(c.toNat : Int) - 48, by omega⟩
            have hl0 : (48 : Int) ≤ c.toNat := by omega
            have hl1 : (c.toNat : Int) ≤ 57 := by omega
            have hdg2 : (0 : Int) ≤ dg := by omega
            have hdg3 : dg ≤ 9 := by omega
            have HAL : Hid ((s.data.toList.drop J).all isDig = true) := Lib.hid (by rw [HD.out, List.all_cons, hall.out, (isDig_iff c).2 hdg]; rfl)
            have HDS : Hid ((digs (s.data.toList.drop J)).map (Value.int .i64) = (digs (s.data.toList.drop (J + 1))).map (Value.int .i64) ++ [.int .i64 dg]) := Lib.hid (by
              rw [HD.out, digs_snoc, List.map_append, show (c.toNat : Int) - 48 = dg from by omega]; rfl)
            have hw1 : IntKind.u8.wrap ((c.toNat : Int) - 48) = dg := by rw [show (c.toNat : Int) - 48 = dg from by omega]; exact IntWalk.u8_in _ ⟨by omega, by omega⟩
            have hw2 : IntKind.i64.wrap dg = dg := IntWalk.i64_in _ ⟨by omega, by omega⟩
            have HO5 := Lib.hid (fun (o : Obj) => ((hO.out.alloc o).drew))
            have HO6 := Lib.hid (fun (o : Obj) => ((hO.out.drew).alloc o))
            have HO7 := Lib.hid (fun (o : Obj) => (hO.out.alloc o))
            have hlt := hO.out.lt
            have HLT := Lib.hid hlt
            have hsz2 : w.heap.size + 1 < wr.heap.size := block_lt_of_cell c0
            clear hdg hO hlt HBD hall hdg1
            go_wp2_with fail
            go_region_law ((refine step_append_lies _ rfl (.tmp 50) (.tmp 56) 35 rfl (w.heap.size + 2) 3 i0 (.int .i64 0) 1 8 Tryz.underlying35 hi hz0 hz1 hz2 rfl (by decide) (.slice a K cap) K ((digs (s.data.toList.drop (J + 1))).map (Value.int .i64)) (by simp [Act.eval]) (by first | exact HO5.out _ | exact HO6.out _ | exact HO7.out _) ⟨wr.heap.size, 0, none⟩ 1 1 [.int .i64 dg] (by simp [Act.eval]) rfl (World.news_of_block (heap_alloc_new _ _)) (by simp [Value.oneCell']) (by decide) (by unfold maxLen; omega) (by omega) (by simp; omega) _ rfl ?_; intro g4 c4 w4 oa ga hat hlt4; have hb4 : Below (w.heap.size + 2) wr w4 := (by first | exact (((Below.refl (w.heap.size + 2) wr).alloc (by omega) _).drew).grown ga (by simp; omega) (fun g hg => (HLT.out g hg).1) | exact (((Below.refl (w.heap.size + 2) wr).drew).alloc (by simp; omega) _).grown ga (by simp; omega) (fun g hg => (HLT.out g hg).1)); have C0 := (hb4.cell (by simp)).trans c0; have C1 := (hb4.cell (by simp)).trans c1; have F0 := (hb4.frozen (by simp)).trans f0; have F1 := (hb4.frozen (by simp)).trans f1; have D0 := (hb4.cell (by simp)).trans d0; have D1 := (hb4.cell (by simp)).trans d1; have G0 := (hb4.frozen (by simp)).trans g0; have G1 := (hb4.frozen (by simp)).trans g1; have HB4 := Lib.hid (hB.out.trans (hb4.mono (by omega))); have OA := Lib.hid oa; clear oa ga hat hb4 c0 c1 f0 f1 d0 d1 g0 g1))
            all_goals
              go_wp2_with fail
              go_roundw
              case rel => exact ⟨J, K + 1, _, c4, by omega, by omega, by omega, by omega, by go_num, HAL, (World.cell?_setCell_other _ _ _ _ (by simp)).trans C0, World.cell?_setCell_same _ _ _ C1, (frozen_set _ _ _ _).trans F0, (frozen_set _ _ _ _).trans F1, (World.cell?_setCell_other _ _ _ _ (by simp)).trans D0, (World.cell?_setCell_other _ _ _ _ (by simp)).trans D1, (frozen_set _ _ _ _).trans G0, (frozen_set _ _ _ _).trans G1, Lib.hid (by rw [HDS.out]; exact ownsRow_setCell_below OA.out (a := ⟨w.heap.size + 1, 1, none⟩) (by simp) _), Lib.hid (HB4.out.setCell (p := ⟨w.heap.size + 1, 1, none⟩) (by simp) _)⟩
              case measure => simp [intOf] <;> omega
          · have hNum : isNum s.data.toList = false := by
              unfold isNum
              have : (bodyT s.data.toList).all isDig = false := List.all_eq_false.2 ⟨c, HBD.out, by rw [isDig_iff]; exact hdg⟩
              rw [this, Bool.and_false]
            obtain rfl : N = 0 := by rw [HN.out]; unfold nP; rw [hNum]; rfl
            obtain rfl : E = 1 := by rw [HE.out]; unfold eP; rw [hNum]; rfl
            clear HN HE hNum HBD HD hall hO
            rcases (by omega : (c.toNat : Int) < 48 ∨ ((48 : Int) ≤ c.toNat ∧ (57 : Int) < c.toNat)) with hlo | ⟨hhi0, hhi⟩
            all_goals
              clear hdg
              go_wp2_with fail
              have e0 : ((wr.setCell ⟨w.heap.size, 0, none⟩ (.bool false)).setCell ⟨w.heap.size, 1, none⟩ (.slice none 0 0)).cell? ⟨w.heap.size, 0, none⟩ = some (.bool false) := by
                rw [World.cell?_setCell_other _ _ _ _ (by simp)]; exact World.cell?_setCell_same _ _ _ d0
              have e1 : ((wr.setCell ⟨w.heap.size, 0, none⟩ (.bool false)).setCell ⟨w.heap.size, 1, none⟩ (.slice none 0 0)).cell? ⟨w.heap.size, 1, none⟩ = some (.slice none 0 0) :=
                World.cell?_setCell_same _ _ _ (by rw [World.cell?_setCell_other _ _ _ _ (by simp)]; exact d1)
              refine bodyPost_ret (v := .tuple #[.agg #[.bool false, .slice none 0 0], .int .i64 1]) (by simp [results, Tryz.results24, go_sem, e0, e1]) rfl ?_
              exact ⟨_, rfl, big_zero _, (hB.out.setCell (p := ⟨w.heap.size, 0, none⟩) (by simp) _).setCell (p := ⟨w.heap.size, 1, none⟩) (by simp) _⟩

end Go.Proofs.YteeajhnbifpklaaGreatDoor
