/- Contract over this seat's program: becklaw05.awake is true. -/
import Derived.Test.YtghimladdioajaaDcTerm
namespace Go.Proofs.Ytghimladdioajaa
open Go Go.RowKit
set_option linter.unusedVariables false
set_option linter.unusedSimpArgs false
def xStringL : List Int := [104, 116, 116, 112, 58, 47, 47, 119, 119, 119, 46, 119, 51, 46, 111, 114, 103, 47, 50, 48, 48, 49, 47, 88, 77, 76, 83, 99, 104, 101, 109, 97, 35, 115, 116, 114, 105, 110, 103]
theorem read_xS : Read xString.data.toList xStringL [] := read_ascii _ _ (by decide +kernel) (by decide +kernel)
theorem iri_xS : iriV xString xStringL [] = true := by decide +kernel
def oneS (c : UInt8) : ByteArray := ⟨#[c]⟩
theorem good_a {G : Tm → Bool} (hG : GoodFn G) : G (.lit ⟨#[97]⟩ xString ⟨#[]⟩) = true := by
  rw [(hG (.lit ⟨#[97]⟩ xString ⟨#[]⟩) ⟨by decide, by decide, by decide⟩).2.2.2 [97] [] xStringL [] (read_ascii _ _ (by decide +kernel) (by decide +kernel)) read_xS]
  show litG _ _ _ _ _ _ = true
  unfold litG
  rw [iri_xS, Lib.toList_data]
  decide +kernel
theorem good_b {G : Tm → Bool} (hG : GoodFn G) : G (.lit ⟨#[98]⟩ xString ⟨#[]⟩) = true := by
  rw [(hG (.lit ⟨#[98]⟩ xString ⟨#[]⟩) ⟨by decide, by decide, by decide⟩).2.2.2 [98] [] xStringL [] (read_ascii _ _ (by decide +kernel) (by decide +kernel)) read_xS]
  show litG _ _ _ _ _ _ = true
  unfold litG
  rw [iri_xS, Lib.toList_data]
  decide +kernel
theorem plain_any (s : ByteArray) (w : World) : Calls Try.prog 34 #[.string s] w fun e w' => e = .returned (.agg #[.string s, .string ⟨#[104, 116, 116, 112, 58, 47, 47, 119, 119, 119, 46, 119, 51, 46, 111, 114, 103, 47, 50, 48, 48, 49, 47, 88, 77, 76, 83, 99, 104, 101, 109, 97, 35, 115, 116, 114, 105, 110, 103]⟩, .string ⟨#[]⟩]) ∧ Below w.heap.size w w' := by
  go_enter Try.func34, Try.ntmps34
  go_wp2
  refine bodyPost_ret (v := .agg #[.string s, .string ⟨#[104, 116, 116, 112, 58, 47, 47, 119, 119, 119, 46, 119, 51, 46, 111, 114, 103, 47, 50, 48, 48, 49, 47, 88, 77, 76, 83, 99, 104, 101, 109, 97, 35, 115, 116, 114, 105, 110, 103]⟩, .string ⟨#[]⟩]) (by simp [results, Try.results34, go_sem]) rfl ?_
  exact ⟨rfl, by go_grown⟩
theorem awake5_any (w : World) (hm : MaxV w) : Calls Try.prog 8 #[] w fun e w' => e = .returned (.bool true) ∧ Below w.heap.size w w' := by
  obtain ⟨G, hG⟩ := good_fn
  have N := Lib.hid (new_yes 3 w (by omega) w.heap.size (Nat.le_refl _))
  have PA := Lib.hid (fun w => plain_any ⟨#[97]⟩ w)
  have PB := Lib.hid (fun w => plain_any ⟨#[98]⟩ w)
  have UA := Lib.hid (fun (p m : Nat) (w1 : World) (hm1 : MaxV w1) (hd : DcAt w.heap.size p m [] 3 w1) (hs : w.heap.size ≤ w1.heap.size) => put_any hG (.lit ⟨#[97]⟩ xString ⟨#[]⟩) ⟨by decide, by decide, by decide⟩ hm1 hd (fun i j hj _ => by simp at hj) (by omega) hs)
  have UB := Lib.hid (fun (p m : Nat) (w1 : World) (hm1 : MaxV w1) (hd : DcAt w.heap.size p m [.lit ⟨#[97]⟩ xString ⟨#[]⟩] 3 w1) (hs : w.heap.size ≤ w1.heap.size) => put_any hG (.lit ⟨#[98]⟩ xString ⟨#[]⟩) ⟨by decide, by decide, by decide⟩ hm1 hd (fun i j hj hi => by simp at hj; omega) (by omega) hs)
  have ha : putT G 3 [] (.lit ⟨#[97]⟩ xString ⟨#[]⟩) = ([.lit ⟨#[97]⟩ xString ⟨#[]⟩], 0, 0) := by
    unfold putT
    rw [good_a hG]
    rfl
  have hb : putT G 3 [.lit ⟨#[97]⟩ xString ⟨#[]⟩] (.lit ⟨#[98]⟩ xString ⟨#[]⟩) = ([.lit ⟨#[97]⟩ xString ⟨#[]⟩, .lit ⟨#[98]⟩ xString ⟨#[]⟩], 1, 0) := by
    unfold putT
    rw [good_b hG]
    have : idxT (.lit ⟨#[98]⟩ xString ⟨#[]⟩) [.lit ⟨#[97]⟩ xString ⟨#[]⟩] = none := by decide +kernel
    rw [this]
    rfl
  rw [ha] at UA
  rw [hb] at UB
  clear ha hb
  have HM := Lib.hid hm
  clear hm
  go_enter Try.func8, Try.ntmps8
  go_wp2_with fail
  refine N.out.mono ?_
  rintro e w1 ⟨p, m, rfl, hd1, hb1, hp1, hm1⟩
  have HD1 := Lib.hid hd1; have HB1 := Lib.hid hb1
  clear hd1 hb1
  go_wp2_with fail
  refine (PA.out _).mono ?_
  rintro e w2 ⟨rfl, hb2⟩
  have hB2 := HB1.out.trans (hb2.mono HB1.out.size)
  have UA' := UA.out p m w2 (HM.out.below hB2) (HD1.out.keep hb2) hB2.size
  have HB2 := Lib.hid hB2
  clear hB2 hb2
  go_wp2_with fail
  refine UA'.mono ?_
  rintro e w3 ⟨rfl, hd3, hk3, _⟩
  have HB3 := Lib.hid (HB2.out.trans hk3.1)
  have HD3 := Lib.hid hd3
  clear hd3 hk3 UA'
  go_wp2_with fail
  refine (PB.out _).mono ?_
  rintro e w4 ⟨rfl, hb4⟩
  have hB4 := HB3.out.trans (hb4.mono HB3.out.size)
  have UB' := UB.out p m w4 (HM.out.below hB4) (HD3.out.keep hb4) hB4.size
  have HB4 := Lib.hid hB4
  clear hB4 hb4
  go_wp2_with fail
  refine UB'.mono ?_
  rintro e w5 ⟨rfl, hd5, hk5, _⟩
  have HB5 := Lib.hid (HB4.out.trans hk5.1)
  have HL := Lib.hid (len_any hd5)
  clear hd5 hk5 UB'
  go_wp2_with fail
  refine HL.out.mono ?_
  rintro e w6 ⟨rfl, rfl⟩
  go_wp2_with fail
  go_ret
  exact ⟨rfl, HB5.out⟩
end Go.Proofs.Ytghimladdioajaa
