/- Rows that grow side by side: the document's triples, two rows of triples; and plain laws on the few that are good. -/
import Derived.Test.YtbchkhjkajagfaaGreatDoorNtFew
import Derived.Test.YtbchkhjkajagfaaGreatDoorNtPrint
namespace Go.Proofs.YtbchkhjkajagfaaGreatDoor
open Go Go.RowKit
set_option linter.unusedVariables false
set_option linter.unusedSimpArgs false
/-- two rows that don't share a block -/
def Apart (V U : Value) : Prop := ∀ k, V.ownBlock = some k → U.ownBlock ≠ some k
theorem Apart.symm {V U : Value} (h : Apart V U) : Apart U V := fun k hu hv => h k hv hu
theorem apart_nil (U : Value) : Apart (.slice none 0 0) U := fun k h => by cases h
theorem RowOf.kept2 {α : Type} {T : TypeId} {size : Nat} {c : α → List Value} {w w' : World} {base : Nat} {V U : Value} {l : List α} (h : RowOf T size c w base V l) (hg : w.grownBy w' U.ownBlock) (hd : Apart U V) : RowOf T size c w' base V l := by
  by_cases hv : V.ownBlock = U.ownBlock
  · cases hu : U.ownBlock with
    | none =>
      rw [hu] at hv
      obtain ⟨h1, (⟨rfl, h0⟩ | ⟨g, cap, _, rfl, _⟩)⟩ := h
      · exact ⟨h1, .inl ⟨rfl, h0⟩⟩
      · exact absurd hv (by simp [Value.ownBlock])
    | some k => exact absurd (hv.trans hu) (hd k hu)
  · exact h.kept_row hg hv
theorem Apart.new {α : Type} {T : TypeId} {size : Nat} {c : α → List Value} {w : World} {base : Nat} {V V' U : Value} {l : List α} (h : Apart V U) (hu : RowOf T size c w base U l) (hv : V'.ownBlock = V.ownBlock ∨ V'.ownBlock = some w.heap.size) : Apart V' U := by
  intro k hk he
  rcases hv with hv | hv
  · exact h k (hv ▸ hk) he
  · rw [hv] at hk
    injection hk with hk
    have := (hu.own_lt k he).2
    omega
/-- three rows beside each other, made behind w0 -/
def T3 (w0 : World) (V : Value) (xs : List Tri) (U : Value) (ys : List Tri) (S : Value) (zs : List Tri) (wr : World) : Prop :=
  Below w0.heap.size w0 wr ∧ RTriRow wr w0.heap.size V xs ∧ TriRow wr w0.heap.size U ys ∧ TriRow wr w0.heap.size S zs ∧ Apart V U ∧ Apart V S ∧ Apart U S
section
variable {w0 wr w' : World} {V U S V' : Value} {xs ys zs l : List Tri}
theorem T3.start (w : World) : T3 w (.slice none 0 0) [] (.slice none 0 0) [] (.slice none 0 0) [] w := ⟨Below.refl _ _, RowOf.nil _ _, RowOf.nil _ _, RowOf.nil _ _, apart_nil _, apart_nil _, apart_nil _⟩
theorem T3.below (h : T3 w0 V xs U ys S zs wr) (hb : Below wr.heap.size wr w') : T3 w0 V xs U ys S zs w' :=
  ⟨h.1.trans (hb.mono h.1.size), h.2.1.below hb, h.2.2.1.below hb, h.2.2.2.1.below hb, h.2.2.2.2⟩
theorem T3.growV (h : T3 w0 V xs U ys S zs wr) (hr : RTriRow w' w0.heap.size V' l) (hg : wr.grownBy w' V.ownBlock) (hv : V'.ownBlock = V.ownBlock ∨ V'.ownBlock = some wr.heap.size) : T3 w0 V' l U ys S zs w' :=
  ⟨h.1.grown hg h.1.size (fun k hk => (h.2.1.own_lt k hk).1), hr, h.2.2.1.kept2 hg h.2.2.2.2.1, h.2.2.2.1.kept2 hg h.2.2.2.2.2.1, h.2.2.2.2.1.new h.2.2.1 hv, h.2.2.2.2.2.1.new h.2.2.2.1 hv, h.2.2.2.2.2.2⟩
theorem T3.growU (h : T3 w0 V xs U ys S zs wr) (hr : TriRow w' w0.heap.size V' l) (hg : wr.grownBy w' U.ownBlock) (hv : V'.ownBlock = U.ownBlock ∨ V'.ownBlock = some wr.heap.size) : T3 w0 V xs V' l S zs w' :=
  ⟨h.1.grown hg h.1.size (fun k hk => (h.2.2.1.own_lt k hk).1), h.2.1.kept2 hg h.2.2.2.2.1.symm, hr, h.2.2.2.1.kept2 hg h.2.2.2.2.2.2, (h.2.2.2.2.1.symm.new h.2.1 hv).symm, h.2.2.2.2.2.1, h.2.2.2.2.2.2.new h.2.2.2.1 hv⟩
theorem T3.growS (h : T3 w0 V xs U ys S zs wr) (hr : TriRow w' w0.heap.size V' l) (hg : wr.grownBy w' S.ownBlock) (hv : V'.ownBlock = S.ownBlock ∨ V'.ownBlock = some wr.heap.size) : T3 w0 V xs U ys V' l w' :=
  ⟨h.1.grown hg h.1.size (fun k hk => (h.2.2.2.1.own_lt k hk).1), h.2.1.kept2 hg h.2.2.2.2.2.1.symm, h.2.2.1.kept2 hg h.2.2.2.2.2.2.symm, hr, h.2.2.2.2.1, (h.2.2.2.2.2.1.symm.new h.2.1 hv).symm, (h.2.2.2.2.2.2.symm.new h.2.2.1 hv).symm⟩
end
/-- the good ones of some triples -/
def goods (G : Tm → Bool) (ts : List Tri) : List Tri := ts.filter (goodTri G)
theorem goods_yes {G : Tm → Bool} {ts : List Tri} {k : Nat} (hk : k < ts.length) (h : goodTri G (ts[k]'hk) = true) : goods G (ts.take (k + 1)) = goods G (ts.take k) ++ [ts[k]'hk] := by
  unfold goods
  rw [List.take_succ_eq_append_getElem hk, List.filter_append, List.filter_cons_of_pos h, List.filter_nil]
theorem goods_no {G : Tm → Bool} {ts : List Tri} {k : Nat} (hk : k < ts.length) (h : goodTri G (ts[k]'hk) = false) : goods G (ts.take (k + 1)) = goods G (ts.take k) := by
  unfold goods
  rw [List.take_succ_eq_append_getElem hk, List.filter_append, List.filter_cons_of_neg (by rw [h]; decide), List.filter_nil, List.append_nil]
theorem goods_len (G : Tm → Bool) (ts : List Tri) : (goods G ts).length ≤ ts.length := List.length_filter_le _ _
theorem goods_mem {G : Tm → Bool} {ts : List Tri} {t : Tri} (h : t ∈ goods G ts) : t ∈ ts ∧ goodTri G t = true := by
  unfold goods at h
  exact List.mem_filter.1 h
theorem good_of {G : Tm → Bool} (hG : GoodFn G) {t : Tri} (hz : SmallTri t) (h : goodTri G t = true) : GoodTri G t := by
  unfold goodTri subG prdG at h
  simp only [Bool.and_eq_true] at h
  obtain ⟨⟨⟨h1, h2⟩, h3, h4⟩, h5⟩ := h
  exact ⟨⟨(good_signs hG hz.1 h1).2, h1, h2⟩, ⟨(good_signs hG hz.2.1 h3).2, h3, h4⟩, (good_signs hG hz.2.2 h5).2, h5⟩
/-- terms whose texts are short -/
def ShortTm (X : Tm) : Prop := (text0 X).size ≤ 300 ∧ (text1 X).size ≤ 300 ∧ (text2 X).size ≤ 100
def ShortTri (t : Tri) : Prop := ShortTm t.s ∧ ShortTm t.p ∧ ShortTm t.o
theorem termK_short {k : Int} {s t g : ByteArray} (h : short5 s t g = true) : ShortTm (termK k s t g) := by
  unfold short5 at h
  simp only [Bool.and_eq_true, decide_eq_true_eq] at h
  have e0 : (⟨#[]⟩ : ByteArray).size = 0 := rfl
  unfold termK
  split
  · exact ⟨by show s.size ≤ _; omega, by show (⟨#[]⟩ : ByteArray).size ≤ _; omega, by show (⟨#[]⟩ : ByteArray).size ≤ _; omega⟩
  · split
    · exact ⟨by show s.size ≤ _; omega, by show (⟨#[]⟩ : ByteArray).size ≤ _; omega, by show (⟨#[]⟩ : ByteArray).size ≤ _; omega⟩
    · exact ⟨by show s.size ≤ _; omega, by show t.size ≤ _; omega, by show g.size ≤ _; omega⟩
theorem few_short {rs : List Raw3} (h : fewB rs = true) : ∀ t ∈ fewT rs, ShortTri t := by
  intro t ht
  unfold fewT at ht
  obtain ⟨r, hr, rfl⟩ := List.mem_map.1 ht
  have h2 := List.all_eq_true.1 h r hr
  unfold short3 at h2
  simp only [Bool.and_eq_true] at h2
  exact ⟨termK_short h2.1.1, termK_short h2.1.2, termK_short h2.2⟩
theorem tmS_all {X : Tm} (hX : GoodS X) : (tmS X).length ≤ 6 * (text0 X).size + (text1 X).size + (text2 X).size + 6 ∧ (kindV X < 2 → (tmS X).length ≤ (text0 X).size + 2) ∧ Signs (tmS X) := by
  have hc : ∀ {x : Int} {l : List Int}, SignP x → Signs l → Signs (x :: l) := fun hx hl n hn => by
    rcases List.mem_cons.1 hn with rfl | hn
    · exact hx
    · exact hl n hn
  have h60 : SignP 60 := by decide
  have h62 : SignP 62 := by decide
  have h64 : SignP 64 := by decide
  have h94 : SignP 94 := by decide
  have h95 : SignP 95 := by decide
  have h58 : SignP 58 := by decide
  cases X with
  | blank s =>
    have h1 : (sg s).length ≤ s.size := read_len hX.1
    have e0 : text0 (.blank s) = s := rfl
    rw [e0, tmS_blank]
    exact ⟨by simp only [List.length_cons]; omega, fun _ => by simp only [List.length_cons]; omega, hc h95 (hc h58 hX.1.2.1)⟩
  | iri s =>
    have h1 : (sg s).length ≤ s.size := read_len hX.1
    have e0 : text0 (.iri s) = s := rfl
    rw [e0, tmS_iri]
    exact ⟨by simp only [List.length_cons, List.length_append, List.length_nil]; omega, fun _ => by simp only [List.length_cons, List.length_append, List.length_nil]; omega, hc h60 (Signs.app hX.1.2.1 (hc h62 Signs.nil))⟩
  | lit s t g =>
    have h1 : (sg s).length ≤ s.size := read_len hX.1
    have h2 : (sg t).length ≤ t.size := read_len hX.2.1
    have hq := qsigns_le (sg s)
    have hqs : Signs (qsigns (sg s)) := fun n hn => (q_sign hX.1.2.1 hn).1
    have e0 : text0 (.lit s t g) = s := rfl
    have e1 : text1 (.lit s t g) = t := rfl
    have e2 : text2 (.lit s t g) = g := rfl
    have e3 : kindV (.lit s t g) = 2 := rfl
    rw [e0, e1, e2, e3, tmS_lit]
    rcases hX.2.2.2 with ⟨rfl, _⟩ | ⟨hne, _, hg, _⟩
    · rw [if_pos rfl]
      split
      · exact ⟨by simp only [List.length_append, List.length_nil]; omega, fun h => by omega, Signs.app hqs Signs.nil⟩
      · exact ⟨by simp only [List.length_append, List.length_cons, List.length_nil]; omega, fun h => by omega, Signs.app hqs (hc h94 (hc h94 (hc h60 (Signs.app hX.2.1.2.1 (hc h62 Signs.nil)))))⟩
    · have h3 : (sg g).length ≤ g.size := read_len hg
      rw [if_neg hne]
      exact ⟨by simp only [List.length_append, List.length_cons]; omega, fun h => by omega, Signs.app hqs (hc h64 hg.2.1)⟩
  | odd n => exact hX.elim
  | none => exact hX.elim
theorem line_all {G : Tm → Bool} {t : Tri} (ht : GoodTri G t) (hs : ShortTri t) : (lineS t).length ≤ 2817 ∧ Signs (lineS t) := by
  obtain ⟨⟨g1, _, m1⟩, ⟨g2, _, m2⟩, g3, _⟩ := ht
  obtain ⟨s1, s2, s3⟩ := hs
  have a1 := tmS_all g1
  have a2 := tmS_all g2
  have a3 := tmS_all g3
  have b1 := a1.2.1 (of_decide_eq_true m1)
  have b2 := a2.2.1 (by have : kindV t.p = 1 := of_decide_eq_true m2; omega)
  have c1 := s1.1
  have c2 := s2.1
  obtain ⟨c3, c4, c5⟩ := s3
  have h32 : SignP 32 := by decide
  have h46 : SignP 46 := by decide
  have h10 : SignP 10 := by decide
  have hc : ∀ {x : Int} {l : List Int}, SignP x → Signs l → Signs (x :: l) := fun hx hl n hn => by
    rcases List.mem_cons.1 hn with rfl | hn
    · exact hx
    · exact hl n hn
  unfold lineS triS
  exact ⟨by simp only [List.length_append, List.length_cons, List.length_nil]; omega, Signs.app (Signs.app a1.2.2 (hc h32 (Signs.app a2.2.2 (hc h32 (Signs.app a3.2.2 (hc h32 (hc h46 Signs.nil))))))) (hc h10 Signs.nil)⟩
theorem lines_all {G : Tm → Bool} : ∀ (ts : List Tri), (∀ t ∈ ts, GoodTri G t ∧ ShortTri t) → (linesS ts).length ≤ 2817 * ts.length ∧ Signs (linesS ts)
  | [], _ => ⟨by simp [linesS], Signs.nil⟩
  | t :: ts, h => by
    have h1 := lines_all ts (fun x hx => h x (List.mem_cons_of_mem _ hx))
    have h2 := line_all (h t List.mem_cons_self).1 (h t List.mem_cons_self).2
    unfold linesS at h1 ⊢
    rw [List.flatMap_cons, List.length_append, List.length_cons]
    exact ⟨by have := h1.1; have := h2.1; omega, Signs.app h2.2 h1.2⟩
theorem linesS_app (a b : List Tri) : linesS (a ++ b) = linesS a ++ linesS b := by unfold linesS; rw [List.flatMap_append]
theorem tB_app (a b : List Int) : tBytes a ++ tBytes b = tBytes (a ++ b) := by
  refine ba_eq ?_
  rw [join_data, tB_data, tB_data, tB_data, textB_append]
theorem goods_app (G : Tm → Bool) (a b : List Tri) : goods G (a ++ b) = goods G a ++ goods G b := List.filter_append ..
end Go.Proofs.YtbchkhjkajagfaaGreatDoor
