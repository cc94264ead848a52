/- Contract over this seat's program: package nt's place. -/
import Derived.Test.YtbchkhjkajagfaaGreatDoorPkF
namespace Go.Proofs.YtbchkhjkajagfaaGreatDoor
open Go Go.RowKit
set_option linter.unusedVariables false
set_option linter.unusedSimpArgs false
set_option maxRecDepth 100000
/-- what the law of place tells: where nothing is told, the scanner stands anywhere -/
def PlaceEnd (l : List Int) (X g cap : Nat) (w : World) (R : Option Tm × Nat × Int) (e : Ending) (w' : World) : Prop :=
  e = .returned (.tuple #[(match R.1 with | some Y => tmV Y | none => .nilIface), .int .i64 R.2.1, .int .i64 R.2.2]) ∧ (∃ q, ScW l q X g cap w' ∧ (R.1.isSome = true → q = R.2.1)) ∧ SK X w w'
set_option maxHeartbeats 3200000 in
theorem place_sub {G : Tm → Bool} (hG : GoodFn G) {l : List Int} {p X g cap : Nat} {w : World} (may : Tm → Bool) (h : ScW l p X g cap w) (he : Esc w) (hX0 : 0 < X) (hl : ∀ n ∈ l, SignP n) (hb : l.length ≤ 100000) (hsm : ∀ Y j, formT l p = (some Y, j) → Small Y) (hm : ∀ w', SK X w w' → MaxV w')
    (hmay : ∀ Y j c w', readT G l p = (some Y, j, c) → SK X w w' → Calls Tryz.prog 36 #[tmV Y] w' fun e w'' => e = .returned (.bool (may Y)) ∧ Below w'.heap.size w' w'') :
    Calls Tryz.prog 59 #[.pointer (some ⟨X, 0, none⟩), .func (.func 36) #[] #[]] w (PlaceEnd l X g cap w (placeT G may l p)) := by
  have HS := Lib.hid (Sn.refl h)
  have HRD := Lib.hid (read_any hG h he hX0 hl hb hsm hm)
  have HL := Lib.hid hl
  have hb6 : l.length ≤ 1000000 := by omega
  obtain ⟨R, hR⟩ : ∃ R, R = placeT G may l p := ⟨_, rfl⟩
  rw [← hR]
  unfold placeT at hR
  obtain ⟨o, j, c, hr⟩ : ∃ o j c, readT G l p = (o, j, c) := ⟨_, _, _, rfl⟩
  rw [hr] at HRD hR
  unfold ReadEnd at HRD
  dsimp only at HRD
  have HRR := Lib.hid hR
  clear hR
  go_enter Tryz.func59, Tryz.ntmps59
  go_wp2_with fail
  refine (place_any l p X g cap _ HS.out.1).mono ?_
  rintro e w1 ⟨rfl, rfl⟩
  go_wp2_with fail
  refine HRD.out.mono ?_
  rintro e w2 ⟨rfl, hs2, hk2⟩
  cases o with
  | none =>
    have HS2 : Hid (Sn l p X g cap w w2) := Lib.hid ⟨hs2, hk2⟩
    have hc0 : c ≠ 0 := by
      unfold readT at hr
      split at hr
      · injection hr with _ h2; injection h2 with _ h3; omega
      · split at hr
        · injection hr with h1; cases h1
        · injection hr with _ h2; injection h2 with _ h3; omega
    have t1 : (c != 0) = true := by simpa using hc0
    have t2 : (c == 0) = false := by simpa using hc0
    clear hs2 hk2 hr hmay hsm hm hc0 h he hl
    dsimp only
    go_wp2_with fail
    refine bodyPost_ret (v := .tuple #[.nilIface, .int .i64 j, .int .i64 c]) (by simp [results, Tryz.results59, go_sem]) rfl ?_
    rw [HRR.out]
    exact ⟨rfl, ⟨p, HS2.out.1, fun h => by cases h⟩, HS2.out.2⟩
  | some Y =>
    have HS2 : Hid (Sn l j X g cap w w2) := Lib.hid ⟨hs2, hk2⟩
    have hc0 : c = 0 := by
      unfold readT at hr
      split at hr
      · injection hr with h1; cases h1
      · split at hr
        · injection hr with _ h2; injection h2 with _ h3; exact h3.symm
        · injection hr with h1; cases h1
    subst hc0
    have HMAY := Lib.hid (fun w' (hk : SK X w w') => hmay Y j 0 w' hr hk)
    clear hs2 hk2 hr hmay hsm hm h he hl
    dsimp only
    cases hy : may Y with
    | true =>
      rw [hy] at HMAY
      have HR2 : Hid (R = (some Y, gapT l j, 0)) := Lib.hid (by rw [HRR.out]; dsimp only; rw [if_pos hy])
      clear hy
      go_wp2_with fail
      refine (HMAY.out _ HS2.out.2).mono ?_
      rintro e w3 ⟨rfl, hb3⟩
      have HS3 := Lib.hid (HS2.out.below hb3)
      clear hb3
      go_wp2_with fail
      refine (gap_any HS3.out.1 HL.out hb6).mono ?_
      intro e w4 hmv
      obtain ⟨rfl, hs4⟩ := HS3.out.moved hmv
      have HS4 := Lib.hid hs4
      clear hmv hs4
      go_wp2_with fail
      refine (place_any l (gapT l j) X g cap _ HS4.out.1).mono ?_
      rintro e w5 ⟨rfl, rfl⟩
      go_wp2_with fail
      refine bodyPost_ret (v := .tuple #[tmV Y, .int .i64 (gapT l j), .int .i64 0]) (by simp [results, Tryz.results59, go_sem]) rfl ?_
      rw [HR2.out]
      exact ⟨rfl, ⟨_, HS4.out.1, fun _ => rfl⟩, HS4.out.2⟩
    | false =>
      rw [hy] at HMAY
      have HR2 : Hid (R = (none, p, 3)) := Lib.hid (by rw [HRR.out]; dsimp only; rw [if_neg (by rw [hy]; decide)])
      clear hy
      go_wp2_with fail
      refine (HMAY.out _ HS2.out.2).mono ?_
      rintro e w3 ⟨rfl, hb3⟩
      have HS3 := Lib.hid (HS2.out.below hb3)
      clear hb3
      go_wp2_with fail
      refine bodyPost_ret (v := .tuple #[.nilIface, .int .i64 p, .int .i64 3]) (by simp [results, Tryz.results59, go_sem]) rfl ?_
      rw [HR2.out]
      exact ⟨rfl, ⟨_, HS3.out.1, fun h => by cases h⟩, HS3.out.2⟩
set_option maxHeartbeats 3200000 in
theorem place_prd {G : Tm → Bool} (hG : GoodFn G) {l : List Int} {p X g cap : Nat} {w : World} (may : Tm → Bool) (h : ScW l p X g cap w) (he : Esc w) (hX0 : 0 < X) (hl : ∀ n ∈ l, SignP n) (hb : l.length ≤ 100000) (hsm : ∀ Y j, formT l p = (some Y, j) → Small Y) (hm : ∀ w', SK X w w' → MaxV w')
    (hmay : ∀ Y j c w', readT G l p = (some Y, j, c) → SK X w w' → Calls Tryz.prog 37 #[tmV Y] w' fun e w'' => e = .returned (.bool (may Y)) ∧ Below w'.heap.size w' w'') :
    Calls Tryz.prog 59 #[.pointer (some ⟨X, 0, none⟩), .func (.func 37) #[] #[]] w (PlaceEnd l X g cap w (placeT G may l p)) := by
  have HS := Lib.hid (Sn.refl h)
  have HRD := Lib.hid (read_any hG h he hX0 hl hb hsm hm)
  have HL := Lib.hid hl
  have hb6 : l.length ≤ 1000000 := by omega
  obtain ⟨R, hR⟩ : ∃ R, R = placeT G may l p := ⟨_, rfl⟩
  rw [← hR]
  unfold placeT at hR
  obtain ⟨o, j, c, hr⟩ : ∃ o j c, readT G l p = (o, j, c) := ⟨_, _, _, rfl⟩
  rw [hr] at HRD hR
  unfold ReadEnd at HRD
  dsimp only at HRD
  have HRR := Lib.hid hR
  clear hR
  go_enter Tryz.func59, Tryz.ntmps59
  go_wp2_with fail
  refine (place_any l p X g cap _ HS.out.1).mono ?_
  rintro e w1 ⟨rfl, rfl⟩
  go_wp2_with fail
  refine HRD.out.mono ?_
  rintro e w2 ⟨rfl, hs2, hk2⟩
  cases o with
  | none =>
    have HS2 : Hid (Sn l p X g cap w w2) := Lib.hid ⟨hs2, hk2⟩
    have hc0 : c ≠ 0 := by
      unfold readT at hr
      split at hr
      · injection hr with _ h2; injection h2 with _ h3; omega
      · split at hr
        · injection hr with h1; cases h1
        · injection hr with _ h2; injection h2 with _ h3; omega
    have t1 : (c != 0) = true := by simpa using hc0
    have t2 : (c == 0) = false := by simpa using hc0
    clear hs2 hk2 hr hmay hsm hm hc0 h he hl
    dsimp only
    go_wp2_with fail
    refine bodyPost_ret (v := .tuple #[.nilIface, .int .i64 j, .int .i64 c]) (by simp [results, Tryz.results59, go_sem]) rfl ?_
    rw [HRR.out]
    exact ⟨rfl, ⟨p, HS2.out.1, fun h => by cases h⟩, HS2.out.2⟩
  | some Y =>
    have HS2 : Hid (Sn l j X g cap w w2) := Lib.hid ⟨hs2, hk2⟩
    have hc0 : c = 0 := by
      unfold readT at hr
      split at hr
      · injection hr with h1; cases h1
      · split at hr
        · injection hr with _ h2; injection h2 with _ h3; exact h3.symm
        · injection hr with h1; cases h1
    subst hc0
    have HMAY := Lib.hid (fun w' (hk : SK X w w') => hmay Y j 0 w' hr hk)
    clear hs2 hk2 hr hmay hsm hm h he hl
    dsimp only
    cases hy : may Y with
    | true =>
      rw [hy] at HMAY
      have HR2 : Hid (R = (some Y, gapT l j, 0)) := Lib.hid (by rw [HRR.out]; dsimp only; rw [if_pos hy])
      clear hy
      go_wp2_with fail
      refine (HMAY.out _ HS2.out.2).mono ?_
      rintro e w3 ⟨rfl, hb3⟩
      have HS3 := Lib.hid (HS2.out.below hb3)
      clear hb3
      go_wp2_with fail
      refine (gap_any HS3.out.1 HL.out hb6).mono ?_
      intro e w4 hmv
      obtain ⟨rfl, hs4⟩ := HS3.out.moved hmv
      have HS4 := Lib.hid hs4
      clear hmv hs4
      go_wp2_with fail
      refine (place_any l (gapT l j) X g cap _ HS4.out.1).mono ?_
      rintro e w5 ⟨rfl, rfl⟩
      go_wp2_with fail
      refine bodyPost_ret (v := .tuple #[tmV Y, .int .i64 (gapT l j), .int .i64 0]) (by simp [results, Tryz.results59, go_sem]) rfl ?_
      rw [HR2.out]
      exact ⟨rfl, ⟨_, HS4.out.1, fun _ => rfl⟩, HS4.out.2⟩
    | false =>
      rw [hy] at HMAY
      have HR2 : Hid (R = (none, p, 3)) := Lib.hid (by rw [HRR.out]; dsimp only; rw [if_neg (by rw [hy]; decide)])
      clear hy
      go_wp2_with fail
      refine (HMAY.out _ HS2.out.2).mono ?_
      rintro e w3 ⟨rfl, hb3⟩
      have HS3 := Lib.hid (HS2.out.below hb3)
      clear hb3
      go_wp2_with fail
      refine bodyPost_ret (v := .tuple #[.nilIface, .int .i64 p, .int .i64 3]) (by simp [results, Tryz.results59, go_sem]) rfl ?_
      rw [HR2.out]
      exact ⟨rfl, ⟨_, HS3.out.1, fun h => by cases h⟩, HS3.out.2⟩
set_option maxHeartbeats 3200000 in
theorem place_good {G : Tm → Bool} (hG : GoodFn G) {l : List Int} {p X g cap : Nat} {w : World} (may : Tm → Bool) (h : ScW l p X g cap w) (he : Esc w) (hX0 : 0 < X) (hl : ∀ n ∈ l, SignP n) (hb : l.length ≤ 100000) (hsm : ∀ Y j, formT l p = (some Y, j) → Small Y) (hm : ∀ w', SK X w w' → MaxV w')
    (hmay : ∀ Y j c w', readT G l p = (some Y, j, c) → SK X w w' → Calls Tryz.prog 38 #[tmV Y] w' fun e w'' => e = .returned (.bool (may Y)) ∧ Below w'.heap.size w' w'') :
    Calls Tryz.prog 59 #[.pointer (some ⟨X, 0, none⟩), .func (.func 38) #[] #[]] w (PlaceEnd l X g cap w (placeT G may l p)) := by
  have HS := Lib.hid (Sn.refl h)
  have HRD := Lib.hid (read_any hG h he hX0 hl hb hsm hm)
  have HL := Lib.hid hl
  have hb6 : l.length ≤ 1000000 := by omega
  obtain ⟨R, hR⟩ : ∃ R, R = placeT G may l p := ⟨_, rfl⟩
  rw [← hR]
  unfold placeT at hR
  obtain ⟨o, j, c, hr⟩ : ∃ o j c, readT G l p = (o, j, c) := ⟨_, _, _, rfl⟩
  rw [hr] at HRD hR
  unfold ReadEnd at HRD
  dsimp only at HRD
  have HRR := Lib.hid hR
  clear hR
  go_enter Tryz.func59, Tryz.ntmps59
  go_wp2_with fail
  refine (place_any l p X g cap _ HS.out.1).mono ?_
  rintro e w1 ⟨rfl, rfl⟩
  go_wp2_with fail
  refine HRD.out.mono ?_
  rintro e w2 ⟨rfl, hs2, hk2⟩
  cases o with
  | none =>
    have HS2 : Hid (Sn l p X g cap w w2) := Lib.hid ⟨hs2, hk2⟩
    have hc0 : c ≠ 0 := by
      unfold readT at hr
      split at hr
      · injection hr with _ h2; injection h2 with _ h3; omega
      · split at hr
        · injection hr with h1; cases h1
        · injection hr with _ h2; injection h2 with _ h3; omega
    have t1 : (c != 0) = true := by simpa using hc0
    have t2 : (c == 0) = false := by simpa using hc0
    clear hs2 hk2 hr hmay hsm hm hc0 h he hl
    dsimp only
    go_wp2_with fail
    refine bodyPost_ret (v := .tuple #[.nilIface, .int .i64 j, .int .i64 c]) (by simp [results, Tryz.results59, go_sem]) rfl ?_
    rw [HRR.out]
    exact ⟨rfl, ⟨p, HS2.out.1, fun h => by cases h⟩, HS2.out.2⟩
  | some Y =>
    have HS2 : Hid (Sn l j X g cap w w2) := Lib.hid ⟨hs2, hk2⟩
    have hc0 : c = 0 := by
      unfold readT at hr
      split at hr
      · injection hr with h1; cases h1
      · split at hr
        · injection hr with _ h2; injection h2 with _ h3; exact h3.symm
        · injection hr with h1; cases h1
    subst hc0
    have HMAY := Lib.hid (fun w' (hk : SK X w w') => hmay Y j 0 w' hr hk)
    clear hs2 hk2 hr hmay hsm hm h he hl
    dsimp only
    cases hy : may Y with
    | true =>
      rw [hy] at HMAY
      have HR2 : Hid (R = (some Y, gapT l j, 0)) := Lib.hid (by rw [HRR.out]; dsimp only; rw [if_pos hy])
      clear hy
      go_wp2_with fail
      refine (HMAY.out _ HS2.out.2).mono ?_
      rintro e w3 ⟨rfl, hb3⟩
      have HS3 := Lib.hid (HS2.out.below hb3)
      clear hb3
      go_wp2_with fail
      refine (gap_any HS3.out.1 HL.out hb6).mono ?_
      intro e w4 hmv
      obtain ⟨rfl, hs4⟩ := HS3.out.moved hmv
      have HS4 := Lib.hid hs4
      clear hmv hs4
      go_wp2_with fail
      refine (place_any l (gapT l j) X g cap _ HS4.out.1).mono ?_
      rintro e w5 ⟨rfl, rfl⟩
      go_wp2_with fail
      refine bodyPost_ret (v := .tuple #[tmV Y, .int .i64 (gapT l j), .int .i64 0]) (by simp [results, Tryz.results59, go_sem]) rfl ?_
      rw [HR2.out]
      exact ⟨rfl, ⟨_, HS4.out.1, fun _ => rfl⟩, HS4.out.2⟩
    | false =>
      rw [hy] at HMAY
      have HR2 : Hid (R = (none, p, 3)) := Lib.hid (by rw [HRR.out]; dsimp only; rw [if_neg (by rw [hy]; decide)])
      clear hy
      go_wp2_with fail
      refine (HMAY.out _ HS2.out.2).mono ?_
      rintro e w3 ⟨rfl, hb3⟩
      have HS3 := Lib.hid (HS2.out.below hb3)
      clear hb3
      go_wp2_with fail
      refine bodyPost_ret (v := .tuple #[.nilIface, .int .i64 p, .int .i64 3]) (by simp [results, Tryz.results59, go_sem]) rfl ?_
      rw [HR2.out]
      exact ⟨rfl, ⟨_, HS3.out.1, fun h => by cases h⟩, HS3.out.2⟩
end Go.Proofs.YtbchkhjkajagfaaGreatDoor
