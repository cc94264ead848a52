/- The contract of the document's iri over this seat's program. Every text (up to a megabyte). -/
import Derived.Test.YtghimladdioajaaTgIri
namespace Go.Proofs.Ytghimladdioajaa
open Go Go.RowKit
set_option linter.unusedVariables false
set_option linter.unusedSimpArgs false
set_option maxRecDepth 100000
/-- the first colon's place, as the document looks for it -/
def colF : Nat → Int → List Int → Int
  | _, c, [] => c
  | k, c, n :: r => colF (k + 1) (if n = 58 ∧ c < 0 then (k : Int) else c) r
theorem colF_pos : ∀ (l : List Int) (k : Nat) (c : Int), 0 ≤ c → colF k c l = c
  | [], k, c, h => rfl
  | n :: r, k, c, h => by
    show colF (k + 1) (if n = 58 ∧ c < 0 then (k : Int) else c) r = c
    rw [if_neg (by omega)]
    exact colF_pos r (k + 1) c h
theorem colF_mem : ∀ (l : List Int) (k : Nat), 1 ≤ k → decide (0 < colF k (-1) l) = l.contains 58
  | [], k, h => by simp [colF]
  | n :: r, k, h => by
    show decide (0 < colF (k + 1) (if n = 58 ∧ (-1 : Int) < 0 then (k : Int) else -1) r) = _
    by_cases hn : n = 58
    · rw [if_pos ⟨hn, by omega⟩, colF_pos _ _ _ (by omega), hn]
      rw [decide_eq_true (by omega)]; simp
    · rw [if_neg (fun h => hn h.1), colF_mem r (k + 1) (by omega), List.contains_cons]
      have : ((58 : Int) == n) = false := by rw [beq_eq_false_iff_ne]; omega
      rw [this, Bool.false_or]
theorem enc_58 {n : Int} (hs : SignP n) : (58 : UInt8) ∈ enc n ↔ n = 58 := by
  constructor
  · intro h
    have h2 : (58 : Int) ∈ (enc n).map bz := List.mem_map.2 ⟨58, h, rfl⟩
    rw [enc_bz] at h2
    unfold SignP at hs
    rcases (by omega : n < 128 ∨ (128 ≤ n ∧ n < 2048) ∨ (2048 ≤ n ∧ n < 65536) ∨ 65536 ≤ n) with g | ⟨g, g'⟩ | ⟨g, g'⟩ | g
    · rw [Lib.encodeRuneZ_one (by omega) (by omega)] at h2
      simp at h2; omega
    · rw [Lib.encodeRuneZ_two (by omega) (by omega)] at h2
      simp at h2; omega
    · rw [Lib.encodeRuneZ_three (by omega)] at h2
      simp at h2; omega
    · rw [Lib.encodeRuneZ_four (by omega) (by omega)] at h2
      simp at h2; omega
  · rintro rfl; decide
theorem text_58 : ∀ l : List Int, (∀ n ∈ l, SignP n) → ((58 : UInt8) ∈ textB l ↔ (58 : Int) ∈ l)
  | [], _ => by simp [textB_nil]
  | n :: r, h => by
    rw [textB_cons, List.mem_append, enc_58 (h n (by simp)), text_58 r (fun x hx => h x (by simp [hx])), List.mem_cons]
    constructor
    · rintro (h | h)
      · exact .inl h.symm
      · exact .inr h
    · rintro (h | h)
      · exact .inl h.symm
      · exact .inr h
theorem byte_mem (L : List UInt8) (c : UInt8) : 0 ≤ Lib.indexByte L c ↔ c ∈ L := by
  have h1 := Lib.indexByte_ge L c
  constructor
  · intro h
    obtain ⟨o, ho⟩ : ∃ o : Nat, Lib.indexByte L c = o := ⟨(Lib.indexByte L c).toNat, by omega⟩
    exact List.mem_of_getElem? (Lib.indexByte_some ho).1
  · intro h
    by_cases h3 : Lib.indexByte L c = -1
    · obtain ⟨i, hi, he⟩ := List.getElem_of_mem h
      exact absurd (by rw [List.getElem?_eq_getElem hi, he]) (Lib.indexByte_none h3 i)
    · omega
theorem col_index (l : List Int) (h : ∀ n ∈ l, SignP n) : decide (0 < colF 0 (-1) l) = decide (1 ≤ Lib.indexByte (textB l) 58) := by
  cases l with
  | nil => rfl
  | cons n r =>
    show decide (0 < colF 1 (if n = 58 ∧ (-1 : Int) < 0 then ((0 : Nat) : Int) else -1) r) = _
    by_cases hn : n = 58
    · subst hn
      rw [if_pos ⟨rfl, by omega⟩, colF_pos _ _ _ (by omega)]
      have e : Lib.indexByte (textB (58 :: r)) 58 = 0 := by
        have h0 : 0 ≤ Lib.indexByte (textB (58 :: r)) 58 := (byte_mem _ _).2 (by rw [textB_cons, List.mem_append]; exact .inl (by decide))
        obtain ⟨o, ho⟩ : ∃ o : Nat, Lib.indexByte (textB (58 :: r)) 58 = o := ⟨(Lib.indexByte (textB (58 :: r)) 58).toNat, by omega⟩
        have h2 := (Lib.indexByte_some ho).2 0
        have h3 : (textB (58 :: r))[0]? = some 58 := by rw [textB_cons, show enc 58 = [58] from by decide]; rfl
        rcases Nat.eq_zero_or_pos o with g | g
        · omega
        · exact absurd h3 (h2 g)
      rw [e]; rfl
    · rw [if_neg (fun h => hn h.1), colF_mem r 1 (by omega)]
      have hm := text_58 r (fun x hx => h x (by simp [hx]))
      have hne : (58 : UInt8) ∉ enc n := fun hh => hn ((enc_58 (h n (by simp))).1 hh)
      have hpos := (enc_pos n).1
      have key : (1 ≤ Lib.indexByte (textB (n :: r)) 58) ↔ (58 : Int) ∈ r := by
        rw [← hm]
        constructor
        · intro h1
          have := (byte_mem (textB (n :: r)) 58).1 (by omega)
          rw [textB_cons, List.mem_append] at this
          rcases this with g | g
          · exact absurd g hne
          · exact g
        · intro h1
          have h0 : 0 ≤ Lib.indexByte (textB (n :: r)) 58 := (byte_mem _ _).2 (by rw [textB_cons, List.mem_append]; exact .inr h1)
          obtain ⟨o, ho⟩ : ∃ o : Nat, Lib.indexByte (textB (n :: r)) 58 = o := ⟨(Lib.indexByte (textB (n :: r)) 58).toNat, by omega⟩
          have h2 := (Lib.indexByte_some ho).1
          rcases Nat.eq_zero_or_pos o with g | g
          · subst g
            rw [textB_cons, List.getElem?_append_left (by omega)] at h2
            exact absurd (List.mem_of_getElem? h2) hne
          · omega
      rw [Bool.eq_iff_iff, List.contains_iff_mem, decide_eq_true_iff]
      exact key.symm
theorem own_cell {w : World} {B : Nat} {T : TypeId} {a : Option Addr} {n cap : Nat} {l : List Int} (h : w.ownsRow B T 1 (.slice a n cap) n (intsV l)) (hn : n = l.length) (k : Nat) (hk : k < l.length) :
    ∃ g, a = some ⟨g, 0, none⟩ ∧ n ≤ cap ∧ cap ≤ 9223372036854775807 ∧ w.cell? ⟨g, k, none⟩ = some (.int .i64 (l[k]'hk)) := by
  subst hn
  obtain ⟨_, (⟨h1, h0⟩ | ⟨g, cap', cur, h1, h2, h3, h4, h5, h6⟩)⟩ := id h
  · have : l.length = 0 := by simpa [intsV] using h0
    omega
  · cases h1
    refine ⟨g, rfl, h4, h5, ?_⟩
    rw [h.cellAt k (by omega)]
    simp [intsV, hk]
/-- the marks, one by one -/
def forbAt (j : Nat) : Int := forbL.getD j 0
theorem forb_run (j : Nat) (hj : j < 9) (w : World) : (Instr.index 9 (.string ⟨#[60, 62, 34, 123, 125, 124, 94, 96, 92]⟩) (.int .i64 j)).run Try.prog w = .ok (.int .u8 (forbAt j)) w ∧ 0 ≤ forbAt j ∧ forbAt j < 256 := by
  rcases (by omega : j = 0 ∨ j = 1 ∨ j = 2 ∨ j = 3 ∨ j = 4 ∨ j = 5 ∨ j = 6 ∨ j = 7 ∨ j = 8) with rfl | rfl | rfl | rfl | rfl | rfl | rfl | rfl | rfl
  all_goals exact ⟨by kernel_rfl, by decide, by decide⟩
theorem forb_mem {n : Int} : forbL.contains n = true ↔ ∃ j, j < 9 ∧ n = forbAt j := by
  rw [List.contains_iff_mem]
  constructor
  · intro h
    obtain ⟨i, hi, he⟩ := List.getElem_of_mem h
    refine ⟨i, hi, ?_⟩
    unfold forbAt
    rw [List.getD_eq_getElem?_getD, List.getElem?_eq_getElem hi]; exact he.symm
  · rintro ⟨j, hj, rfl⟩
    unfold forbAt
    have hj' : j < forbL.length := hj
    rw [List.getD_eq_getElem?_getD, List.getElem?_eq_getElem hj']
    exact List.getElem_mem hj'
set_option maxHeartbeats 12800000 in
theorem riri_any (s : ByteArray) (l : List Int) (r : List UInt8) (w : World) (h : Read s.data.toList l r) (hs : s.size ≤ 1000000) :
    Calls Try.prog 42 #[.string s] w fun e w' => e = .returned (.bool (iriV s l r)) ∧ Below w.heap.size w w' := by
  obtain ⟨R, hR⟩ : ∃ R, R = iriV s l r := ⟨_, rfl⟩
  rw [← hR]
  have HR0 := Lib.hid hR
  have HSG := Lib.hid (fun w => signs_any s l r w h (by omega))
  unfold SignsRes at HSG
  have HSP : Hid (∀ n ∈ l, SignP n) := Lib.hid h.2.1
  have hll : l.length ≤ s.size := read_len h
  have HTX : Hid (r = [] → s.data.toList = textB l) := Lib.hid (fun hr => by have := h.1; rw [hr, List.append_nil] at this; exact this)
  clear h hR
  obtain ⟨L, hL⟩ : ∃ L, L = l.length := ⟨_, rfl⟩
  have HLE := Lib.hid hL
  simp only [← hL] at HSG hll
  clear hL
  cases hre : r.isEmpty with
  | false =>
    have HRF : Hid (R = false) := Lib.hid (by rw [HR0.out]; unfold iriV; rw [hre]; simp)
    rw [hre] at HSG
    clear hre
    go_enter Try.func42, Try.ntmps42
    go_wp2_with fail
    refine (HSG.out _).mono ?_
    rintro e w2 ⟨a, cap, rfl, hown, hb⟩
    have HB := Lib.hid hb
    clear hown hb
    go_wp2_with fail
    go_ret
    exact ⟨by rw [HRF.out]; rfl, HB.out⟩
  | true =>
    rw [hre] at HSG
    have hr0 : r = [] := List.isEmpty_iff.1 hre
    by_cases hbig : 4096 < s.size
    · have HRF : Hid (R = false) := Lib.hid (by rw [HR0.out]; unfold iriV; rw [decide_eq_false (by omega)]; rfl)
      have g1 : (4096 : Int) < s.size := by omega
      clear hre hr0 hbig hs
      go_enter Try.func42, Try.ntmps42
      go_wp2_with fail
      refine (HSG.out _).mono ?_
      rintro e w2 ⟨a, cap, rfl, hown, hb⟩
      have HB := Lib.hid hb
      clear hown hb
      go_wp2_with fail
      go_ret
      exact ⟨by rw [HRF.out]; rfl, HB.out⟩
    · have g1 : ¬ (4096 : Int) < s.size := by omega
      have HRV : Hid (R = (decide (0 < colF 0 (-1) l) && l.all okR)) := Lib.hid (by
        rw [HR0.out, col_index l HSP.out, ← HTX.out hr0]
        unfold iriV
        rw [decide_eq_true (show s.size ≤ 4096 by omega), hre]; rfl)
      clear hre hr0 hbig hs
      go_enter Try.func42, Try.ntmps42
      go_wp2_with fail
      refine (HSG.out _).mono ?_
      rintro e w2 ⟨a, cap, rfl, hown, hb⟩
      have HB := Lib.hid hb
      have HC := Lib.hid (own_cell hown HLE.out)
      clear hown hb HSG
      go_wp2_with fail
      go_loopw [5, 24] (fun c i wr => ∃ (k : Nat) (C : Int) (q : Nat), k ≤ L ∧ i = .int .i64 k ∧ c = .int .i64 C ∧ -1 ≤ C ∧ C ≤ k ∧ Hid (colF 0 (-1) l = colF k C (l.drop k)) ∧ Hid (l.all okR = (l.drop k).all okR) ∧ wr = w2.drewN q) (fun _ i _ => L - (intOf i).toNat)
      case atStart => exact ⟨0, -1, 0, by omega, rfl, rfl, by omega, by omega, Lib.hid rfl, Lib.hid rfl, rfl⟩
      case round =>
        obtain ⟨k, C, q, hk, rfl, rfl, C0, C1, HCF, HA, rfl⟩ := hrel
        by_cases hlt : k < L
        · have hk' : k < l.length := by rw [← HLE.out]; exact hlt
          obtain ⟨g, ha, hcap, hcap2, hcell⟩ := HC.out k hk'
          subst ha
          have hn := HSP.out _ (List.getElem_mem hk')
          have HST := Lib.hid (all_step l k hk')
          have HDR := Lib.hid (List.drop_eq_getElem_cons hk')
          generalize l[k]'hk' = n at hcell hn HST HDR
          have b0 : (0 : Int) ≤ k := by omega
          have b1 : (k : Int) < L := by omega
          have CL := Lib.hid (fun w => rclass_any n w (by unfold SignP at hn; omega) (by unfold SignP at hn; omega))
          obtain ⟨c, hc⟩ : ∃ c, c = classV n := ⟨_, rfl⟩
          by_cases h0 : classV n = 0
          · have ho : okR n = false := by unfold okR; rw [h0]; rfl
            have HRF : Hid (R = false) := Lib.hid (by rw [HRV.out, HA.out, HST.out, ho]; simp)
            rw [h0] at CL
            clear ho h0 hc hk' hn
            go_wp2_with fail
            refine (CL.out _).mono ?_
            rintro e w' ⟨rfl, rfl⟩
            go_wp2_with fail
            go_ret
            exact ⟨by rw [HRF.out]; rfl, below_drewN HB.out q⟩
          · by_cases h4 : classV n = 4
            · have ho : okR n = false := by unfold okR; rw [h4]; rfl
              have HRF : Hid (R = false) := Lib.hid (by rw [HRV.out, HA.out, HST.out, ho]; simp)
              rw [h4] at CL
              clear ho h0 h4 hc hk' hn
              go_wp2_with fail
              refine (CL.out _).mono ?_
              rintro e w' ⟨rfl, rfl⟩
              go_wp2_with fail
              go_ret
              exact ⟨by rw [HRF.out]; rfl, below_drewN HB.out q⟩
            · have HOK : Hid (okR n = !(forbL.contains n)) := Lib.hid (by
                unfold okR
                rw [show (classV n != 0) = true by simpa using h0, show (classV n != 4) = true by simpa using h4]; rfl)
              rw [← hc] at CL h0 h4
              have c2 : (c == 0) = false := beq_eq_false_iff_ne.mpr h0
              have c3 : (c == 4) = false := beq_eq_false_iff_ne.mpr h4
              clear h0 h4 hc hk' hn
              go_wp2_with fail
              refine (CL.out _).mono ?_
              rintro e w' ⟨rfl, rfl⟩
              go_wp2_with fail
              go_loopw [9] (fun x wr => ∃ (j q : Nat), j ≤ 9 ∧ x = .int .i64 j ∧ Hid (∀ i, i < j → n ≠ forbAt i) ∧ wr = w2.drewN q) (fun x _ => 9 - (intOf x).toNat)
              case atStart => exact ⟨0, q, by omega, rfl, Lib.hid (fun i hi => by omega), rfl⟩
              case round =>
                obtain ⟨j, q2, hj, rfl, HJ, rfl⟩ := hrel
                by_cases hj9 : j < 9
                · obtain ⟨hix0, f0, f1⟩ := forb_run j hj9 default
                  have hix := fun w => (forb_run j hj9 w).1
                  clear hix0
                  obtain ⟨F, hF⟩ : ∃ F, F = forbAt j := ⟨_, rfl⟩
                  rw [← hF] at f0 f1
                  simp only [← hF] at hix
                  have HFE := Lib.hid hF
                  clear hF
                  have d0 : (0 : Int) ≤ j := by omega
                  have d1 : (j : Int) < 9 := by omega
                  have hwb : IntKind.i64.wrap F = F := IntWalk.i64_in _ (by omega)
                  by_cases hne : n = F
                  · have HRF : Hid (R = false) := Lib.hid (by
                      have : forbL.contains n = true := forb_mem.2 ⟨j, hj9, by rw [← HFE.out]; exact hne⟩
                      rw [HRV.out, HA.out, HST.out, HOK.out, this]; simp)
                    have e1 : (n == F) = true := by simpa using hne
                    clear hne
                    go_wp2_with fail
                    go_quiet (fail)
                    go_wp2_with fail
                    go_ret
                    exact ⟨by rw [HRF.out]; rfl, below_drewN (below_drewN HB.out _) _⟩
                  · have HJ2 : Hid (∀ i, i < j + 1 → n ≠ forbAt i) := Lib.hid (fun i hi => by
                      rcases (by omega : i < j ∨ i = j) with h | h
                      · exact HJ.out i h
                      · rw [h, ← HFE.out]; exact hne)
                    have e1 : (n == F) = false := by simpa using hne
                    clear hne
                    go_wp2_with fail
                    go_quiet (fail)
                    go_wp2_with fail
                    go_roundw
                    case rel => exact ⟨j + 1, _, by omega, by go_num, HJ2, rfl⟩
                    case measure => simp [intOf]; omega
                · have ho : okR n = true := by
                    rw [HOK.out]
                    cases hh : forbL.contains n with
                    | false => rfl
                    | true =>
                      obtain ⟨i, hi, he⟩ := forb_mem.1 hh
                      exact absurd he (HJ.out i (by omega))
                  have HA2 : Hid (l.all okR = (l.drop (k + 1)).all okR) := Lib.hid (by rw [HA.out, HST.out, ho, Bool.true_and])
                  have hcs : colF 0 (-1) l = colF (k + 1) (if n = 58 ∧ C < 0 then (k : Int) else C) (l.drop (k + 1)) := by rw [HCF.out, HDR.out]; rfl
                  clear ho
                  by_cases h58 : n = 58
                  · have e58 : (n == 58) = true := by rw [h58]; rfl
                    by_cases hC : C < 0
                    · have HCF2 : Hid (colF 0 (-1) l = colF (k + 1) k (l.drop (k + 1))) := Lib.hid (by rw [hcs, if_pos ⟨h58, hC⟩])
                      clear hcs h58
                      go_wp2_with fail
                      go_roundw
                      case rel => exact ⟨k + 1, k, q2, by omega, by go_num, by first | rfl | go_num, by omega, by omega, HCF2, HA2, rfl⟩
                      case measure => simp [intOf]; omega
                    · have HCF2 : Hid (colF 0 (-1) l = colF (k + 1) C (l.drop (k + 1))) := Lib.hid (by rw [hcs, if_neg (fun h => hC h.2)])
                      clear hcs h58
                      go_wp2_with fail
                      go_roundw
                      case rel => exact ⟨k + 1, C, q2, by omega, by go_num, by first | rfl | go_num, by omega, by omega, HCF2, HA2, rfl⟩
                      case measure => simp [intOf]; omega
                  · have HCF2 : Hid (colF 0 (-1) l = colF (k + 1) C (l.drop (k + 1))) := Lib.hid (by rw [hcs, if_neg (fun h => h58 h.1)])
                    have e58 : (n == 58) = false := beq_eq_false_iff_ne.mpr h58
                    clear hcs h58
                    go_wp2_with fail
                    go_roundw
                    case rel => exact ⟨k + 1, C, q2, by omega, by go_num, by first | rfl | go_num, by omega, by omega, HCF2, HA2, rfl⟩
                    case measure => simp [intOf]; omega
        · have hkl : k = l.length := by rw [← HLE.out]; omega
          have HRT : Hid (R = decide (0 < C)) := Lib.hid (by rw [HRV.out, HA.out, HCF.out, hkl, List.drop_length]; show (decide (0 < C) && true) = decide (0 < C); exact Bool.and_true _)
          clear hkl
          go_wp2_with fail
          go_ret
          exact ⟨by rw [HRT.out]; rfl, below_drewN HB.out q⟩
end Go.Proofs.Ytghimladdioajaa
