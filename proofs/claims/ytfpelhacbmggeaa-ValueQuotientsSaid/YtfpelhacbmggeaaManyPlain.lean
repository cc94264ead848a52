/- The plain law of ValueMany: where a fold stands, told by a flag and a number. No program in sight. -/
import Derived.Test.YtfpelhacbmggeaaBigSums
namespace Go.Proofs.Ytfpelhacbmggeaa
open Go.RowKit
/-- after k items: the flag still true: the number so far, and what is left; the flag false: the number that did not fit -/
def StV (op : Int → Int → Int) (zs : List Int) (k : Nat) (o : Int) (f : Bool) (s : Int) : Prop :=
  szV s < ten 60 ∧ ((f = true ∧ fits s = true ∧ foldV op zs o = foldV op (zs.drop k) s) ∨ (f = false ∧ fits s = false ∧ foldV op zs o = none))
theorem st_start (op : Int → Int → Int) (zs : List Int) (o : Int) (ho : fits o = true) : StV op zs 0 o true o := ⟨low_60 o ho, .inl ⟨rfl, ho, by simp⟩⟩
theorem st_step {op : Int → Int → Int} {zs : List Int} {k : Nat} {o s : Int} (h : StV op zs k o true s) (hk : k < zs.length) (hb : szV (op s (zs[k]?.getD 0)) < ten 60) :
    StV op zs (k + 1) o (fits (op s (zs[k]?.getD 0))) (op s (zs[k]?.getD 0)) := by
  obtain ⟨_, (⟨_, _, h2⟩ | ⟨h3, _⟩)⟩ := h
  · refine ⟨hb, ?_⟩
    rw [drop_cons zs k hk] at h2
    cases hf : fits (op s (zs[k]?.getD 0)) with
    | true => exact .inl ⟨rfl, rfl, by rw [h2, foldV_cons _ _ _ _ hf]⟩
    | false => exact .inr ⟨rfl, rfl, by rw [h2, foldV_none _ _ _ _ hf]⟩
  · cases h3
theorem st_still {op : Int → Int → Int} {zs : List Int} {k : Nat} {o s : Int} (h : StV op zs k o false s) : StV op zs (k + 1) o false s := by
  obtain ⟨h0, (⟨h3, _⟩ | ⟨_, h1, h2⟩)⟩ := h
  · cases h3
  · exact ⟨h0, .inr ⟨rfl, h1, h2⟩⟩
theorem st_fits {op : Int → Int → Int} {zs : List Int} {k : Nat} {o s : Int} (h : StV op zs k o true s) : fits s = true := by
  obtain ⟨_, (⟨_, h1, _⟩ | ⟨h3, _⟩)⟩ := h
  · exact h1
  · cases h3
theorem st_end {op : Int → Int → Int} {zs : List Int} {o s : Int} {f : Bool} (h : StV op zs zs.length o f s) : oN (foldV op zs o) = nF s ∧ oE (foldV op zs o) = eF s := by
  obtain ⟨_, (⟨rfl, h1, h2⟩ | ⟨rfl, h1, h2⟩)⟩ := h
  · rw [h2, List.drop_length]; unfold nF eF; rw [h1]; simp [foldV, oN, oE]
  · rw [h2]; unfold nF eF; rw [h1]; simp [oN, oE]
theorem digA_first {w : World} {a : Option Addr} {zs : List Int} (h : DigA w a zs) (h0 : 0 < zs.length) : ∃ b off, a = some ⟨b, off, none⟩ ∧ ∀ j, j < zs.length → w.cell? ⟨b, off + j, none⟩ = some (.int .i64 (zs[j]?.getD 0)) := by
  obtain ⟨b, off, rfl, _⟩ := h 0 h0
  refine ⟨b, off, rfl, fun j hj => ?_⟩
  obtain ⟨b', off', he, hc⟩ := h j hj
  cases he
  exact hc
theorem Add_row (a : Option Addr) (cap : Nat) (zs : List Int) (w : World) (hbig : zs.length ≤ 9223372036854775807) (hz : ∀ j, j < zs.length → fits (zs[j]?.getD 0) = true) (h : DigA w a zs) :
    Calls Try.prog 27 #[.slice a zs.length cap] w fun e w' => e = .returned (.tuple #[.int .i64 (oN (foldV (· + ·) zs 0)), .int .i64 (oE (foldV (· + ·) zs 0))]) ∧ w = w' := by
  by_cases h0 : zs.length = 0
  · have : zs = [] := List.length_eq_zero_iff.1 h0
    subst this
    exact Add_nil a cap w
  · obtain ⟨b, off, rfl, hc⟩ := digA_first h (by omega)
    exact Add_any b off cap zs w hbig hz hc
theorem Mul_row (a : Option Addr) (cap : Nat) (zs : List Int) (w : World) (hbig : zs.length ≤ 9223372036854775807) (hz : ∀ j, j < zs.length → fits (zs[j]?.getD 0) = true) (h : DigA w a zs) :
    Calls Try.prog 28 #[.slice a zs.length cap] w fun e w' => e = .returned (.tuple #[.int .i64 (oN (foldV (· * ·) zs 1)), .int .i64 (oE (foldV (· * ·) zs 1))]) ∧ w = w' := by
  by_cases h0 : zs.length = 0
  · have : zs = [] := List.length_eq_zero_iff.1 h0
    subst this
    exact Mul_nil a cap w
  · obtain ⟨b, off, rfl, hc⟩ := digA_first h (by omega)
    exact Mul_any b off cap zs w hbig hz hc
/-- a boxed number's two cells -/
def boxF (s : Bool) (a : Option Addr) (l c : Nat) (j : Nat) : Value := if j = 0 then .bool s else .slice a l c
/-- what is stored into a boxed number's cells hits no digit -/
theorem digA_box {w : World} {b i : Nat} {t : TypeId} {s : Bool} {a' : Option Addr} {l c : Nat} {a : Option Addr} {ds : List Int} {v : Value} (hr : w.rowIs b t 2 (boxF s a' l c)) (h : DigA w a ds) : DigA (w.setCell ⟨b, i, none⟩ v) a ds := fun j hj => by
  obtain ⟨g, off, ha, hc⟩ := h j hj
  refine ⟨g, off, ha, ?_⟩
  by_cases e : g = b
  · subst e
    exfalso
    by_cases h2 : off + j < 2
    · have := hr.cell h2
      rw [hc] at this
      unfold boxF at this
      split at this <;> cases this
    · obtain ⟨cs, hb, hn, _⟩ := hr
      have h3 : cs[off + j]? = none := Array.getElem?_eq_none (by omega)
      simp [World.cell?, hb, h3] at hc
  · rw [World.cell?_setCell_other _ _ _ _ (fun h => e (by cases h; rfl))]; exact hc
theorem bigV_box {w : World} {b i : Nat} {t : TypeId} {s : Bool} {a' : Option Addr} {l c : Nat} {u v : Value} {N : Int} (hr : w.rowIs b t 2 (boxF s a' l c)) (h : BigV w u N) : BigV (w.setCell ⟨b, i, none⟩ v) u N := by
  obtain ⟨x, ds, h1, ⟨y, cp, h2, h3, h4, h5⟩, h6⟩ := h
  exact ⟨x, ds, h1, ⟨y, cp, h2, h3, h4, digA_box hr h5⟩, h6⟩
theorem box_set {w : World} {b : Nat} {t : TypeId} {s s' : Bool} {a a' : Option Addr} {l l' c c' : Nat} (hr : w.rowIs b t 2 (boxF s a l c)) :
    ((w.setCell ⟨b, 0, none⟩ (.bool s')).setCell ⟨b, 1, none⟩ (.slice a' l' c')).rowIs b t 2 (boxF s' a' l' c') :=
  ((hr.set 0 (.bool s')).set 1 (.slice a' l' c')).congr fun i hi => by
    unfold boxF
    match i, hi with
    | 0, _ => rfl
    | 1, _ => rfl
/-- one number stored into its box, beside another -/
theorem bigV_store {w : World} {b : Nat} {t : TypeId} {s s' : Bool} {a a' : Option Addr} {l l' c c' : Nat} {u : Value} {N : Int} (hr : w.rowIs b t 2 (boxF s a l c)) (h : BigV w u N) :
    BigV ((w.setCell ⟨b, 0, none⟩ (.bool s')).setCell ⟨b, 1, none⟩ (.slice a' l' c')) u N := by
  have h1 := bigV_box (i := 0) (v := .bool s') hr h
  have h2 : (w.setCell ⟨b, 0, none⟩ (.bool s')).rowIs b t 2 (boxF s' a l c) := (hr.set 0 (.bool s')).congr fun i hi => by
    unfold boxF
    match i, hi with
    | 0, _ => rfl
    | 1, _ => rfl
  exact bigV_box h2 h1
end Go.Proofs.Ytfpelhacbmggeaa
