/- Contract over this seat's program: the document's Read. -/
import Derived.Test.YtbchkhjkajagfaaGreatDoorNtRIri
import Derived.Test.YtbchkhjkajagfaaGreatDoorNtSubj
namespace Go.Proofs.YtbchkhjkajagfaaGreatDoor
open Go Go.RowKit
set_option linter.unusedVariables false
set_option linter.unusedSimpArgs false
set_option maxRecDepth 100000
def refO : Option Tm → Value
  | some X => .agg #[.int .i64 (kindV X), .string (text0 X), .string (text1 X), .string (text2 X)]
  | none => .agg #[.int .i64 0, .string ⟨#[]⟩, .string ⟨#[]⟩, .string ⟨#[]⟩]
/-- the two blocks of the call's own -/
def RB (w : World) (k : Int) (s t g : ByteArray) (w' : World) : Prop :=
  w'.heap[w.heap.size]? = some (.cells #[.int .i64 0, .string ⟨#[]⟩, .string ⟨#[]⟩, .string ⟨#[]⟩] 27 (0, 0)) ∧ w'.heap[w.heap.size + 1]? = some (.cells #[.int .i64 k, .string s, .string t, .string g] 27 (0, 0)) ∧ Below w.heap.size w w'
theorem RB.below {w w1 w2 : World} {k : Int} {s t g : ByteArray} (h : RB w k s t g w1) (hb : Below w1.heap.size w1 w2) : RB w k s t g w2 :=
  ⟨blk_below h.1 hb, blk_below h.2.1 hb, h.2.2.trans (hb.mono h.2.2.size)⟩
theorem RB.set {w w1 : World} {k k' : Int} {s t g s' t' g' : ByteArray} (h : RB w k s t g w1) (i : Nat) (v : Value) (hu : (#[.int .i64 k, .string s, .string t, .string g] : Array Value).setIfInBounds i v = #[.int .i64 k', .string s', .string t', .string g']) : RB w k' s' t' g' (w1.setCell ⟨w.heap.size + 1, i, none⟩ v) := by
  obtain ⟨h1, h2, h3⟩ := h
  refine ⟨blk_other h1 (by show w.heap.size ≠ w.heap.size + 1; omega), ?_, h3.setCell (p := ⟨w.heap.size + 1, i, none⟩) (by show w.heap.size ≤ w.heap.size + 1; omega) v⟩
  rw [set_at h2, hu]
theorem blk4 {w : World} {p : Nat} {a b c d : Value} {T : TypeId} (h1 : w.heap[p]? = some (.cells #[a, b, c, d] T (0, 0))) : w.cell? ⟨p, 0, none⟩ = some a ∧ w.cell? ⟨p, 1, none⟩ = some b ∧ w.cell? ⟨p, 2, none⟩ = some c ∧ w.cell? ⟨p, 3, none⟩ = some d ∧ (∀ j, w.frozen? ⟨p, j, none⟩ = false) :=
  ⟨by simp [World.cell?, h1], by simp [World.cell?, h1], by simp [World.cell?, h1], by simp [World.cell?, h1], fun j => by simp [World.frozen?, h1]⟩
theorem two_blk (w : World) (c0 c1 : Array Value) (t0 t1 : TypeId) : ((w.alloc (.cells c0 t0)).alloc (.cells c1 t1)).heap[w.heap.size]? = some (.cells c0 t0 (0, 0)) ∧ ((w.alloc (.cells c0 t0)).alloc (.cells c1 t1)).heap[w.heap.size + 1]? = some (.cells c1 t1 (0, 0)) := by
  have b1 : ∀ (w : World) o, Below w.heap.size w (w.alloc o) := fun w o => (Below.refl _ _).alloc (Nat.le_refl _) o
  have h0 := blk_below (blk_new w c0 t0) (b1 _ (.cells c1 t1))
  have h1 := blk_new (w.alloc (.cells c0 t0)) c1 t1
  have e1 : (w.alloc (.cells c0 t0)).heap.size = w.heap.size + 1 := by simp
  rw [e1] at h1
  exact ⟨h0, h1⟩
theorem RB.start (w : World) : RB w 0 ⟨#[]⟩ ⟨#[]⟩ ⟨#[]⟩ ((w.alloc (.cells #[.int .i64 0, .string ⟨#[]⟩, .string ⟨#[]⟩, .string ⟨#[]⟩] 27)).alloc (.cells #[.int .i64 0, .string ⟨#[]⟩, .string ⟨#[]⟩, .string ⟨#[]⟩] 27)) := by
  obtain ⟨h0, h1⟩ := two_blk w #[.int .i64 0, .string ⟨#[]⟩, .string ⟨#[]⟩, .string ⟨#[]⟩] #[.int .i64 0, .string ⟨#[]⟩, .string ⟨#[]⟩, .string ⟨#[]⟩] 27 27
  exact ⟨h0, h1, ((Below.refl _ _).alloc (Nat.le_refl _) _).alloc (by simp) _⟩
theorem RB.end4 {w w1 : World} {k : Int} {s t g : ByteArray} (h : RB w k s t g w1) (a b c d : Value) : Below w.heap.size w ((((w1.setCell ⟨w.heap.size, 0, none⟩ a).setCell ⟨w.heap.size, 1, none⟩ b).setCell ⟨w.heap.size, 2, none⟩ c).setCell ⟨w.heap.size, 3, none⟩ d) :=
  (((h.2.2.setCell (p := ⟨w.heap.size, 0, none⟩) (Nat.le_refl _) a).setCell (p := ⟨w.heap.size, 1, none⟩) (Nat.le_refl _) b).setCell (p := ⟨w.heap.size, 2, none⟩) (Nat.le_refl _) c).setCell (p := ⟨w.heap.size, 3, none⟩) (Nat.le_refl _) d
def RReadEnd (w : World) (R : Option Tm × Nat × Int) (e : Ending) (w' : World) : Prop := e = .returned (.tuple #[refO R.1, .int .i64 R.2.1, .int .i64 R.2.2]) ∧ Below w.heap.size w w'
set_option maxHeartbeats 12800000 in
theorem rread_iri {G : Tm → Bool} (hG : GoodFn G) {l : List Int} {a : Option Addr} {cs : Nat} {w : World} (p : Nat) (h : SgRow l a cs w) (hl : ∀ n ∈ l, SignP n) (hb : l.length ≤ 100000) (hp : p ≤ l.length) (h60 : pk l p = 60) :
    Calls Tryz.prog 26 #[.slice a l.length cs, .int .i64 p] w (RReadEnd w (readT G l p)) := by
  have HL := Lib.hid hl
  have HLB := Lib.hid hb
  have HGF := Lib.hid hG
  have HST := Lib.hid (fun (wr : World) (hw : Below w.heap.size w wr) (i : Nat) (c : Int) (hc : 0 ≤ c ∧ c ≤ 255) (hi : i ≤ 2000000) => stands_any i c hc (h.below hw) hl (by omega : l.length ≤ 1000000) hi)
  have HIR := Lib.hid (fun (wr : World) (hw : Below w.heap.size w wr) (q : Nat) (hq : q ≤ l.length) => riri4_any q (h.below hw) hl hb hq)
  have HWD := Lib.hid (fun (wr : World) (hw : Below w.heap.size w wr) (q : Nat) (u : Bool) (hq : q ≤ l.length) => rword_any q u (h.below hw) hl (by omega : l.length ≤ 1000000) hq)
  have HQU := Lib.hid (fun (wr : World) (hw : Below w.heap.size w wr) => rquoted_any l p _ cs a wr (h.below hw).rcls hl hb hp)
  obtain ⟨R, hR⟩ : ∃ R, R = readT G l p := ⟨_, rfl⟩
  have HR := Lib.hid hR
  rw [← hR]
  unfold RReadEnd
  obtain ⟨W1, hW1⟩ : ∃ W1, W1 = ((w.alloc (.cells #[.int .i64 0, .string ⟨#[]⟩, .string ⟨#[]⟩, .string ⟨#[]⟩] 27)).alloc (.cells #[.int .i64 0, .string ⟨#[]⟩, .string ⟨#[]⟩, .string ⟨#[]⟩] 27)) := ⟨_, rfl⟩
  have HB1 : Hid (RB w 0 ⟨#[]⟩ ⟨#[]⟩ ⟨#[]⟩ W1) := Lib.hid (by rw [hW1]; exact RB.start w)
  have HW1 := Lib.hid hW1
  have hp2 : (p : Int) ≤ 100000 := by omega
  clear h hl hG hW1 hR
  have HS := Lib.hid (HST.out W1 HB1.out.2.2 p 60 (by omega) (by omega))
  rw [decide_eq_true h60] at HS
  have HF : Hid (formT l p = ((iriT l p).1.map (fun t => .iri (tBytes t)), (iriT l p).2)) := Lib.hid (by unfold formT; rw [if_pos h60])
  have HI := Lib.hid (fun wr hw => HIR.out wr hw p hp)
  obtain ⟨o, j, hoj⟩ : ∃ o j, iriT l p = (o, j) := ⟨_, _, rfl⟩
  rw [hoj] at HF HI
  clear hoj h60
  obtain ⟨x0, x1, x2, x3, xf⟩ := blk4 HB1.out.2.1
  have xf0 := xf 0
  have xf1 := xf 1
  have xf2 := xf 2
  have xf3 := xf 3
  obtain ⟨z0, z1, z2, z3, zf⟩ := blk4 HB1.out.1
  have zf0 := zf 0
  have zf1 := zf 1
  have zf2 := zf 2
  have zf3 := zf 3
  clear xf zf
  cases o with
  | none =>
    have HRR : Hid (R = (none, j, 1)) := Lib.hid (by rw [HR.out]; unfold readT; rw [HF.out]; rfl)
    dsimp only at HI
    go_enter Tryz.func26, Tryz.ntmps26
    go_wp2_with fail
    rw [← HW1.out]
    refine HS.out.mono ?_
    rintro e w' ⟨rfl, rfl⟩
    go_wp2_with fail
    refine (HI.out _ (HB1.out.set (k' := 1) 0 _ rfl).2.2).mono ?_
    rintro e w2 ⟨rfl, hb2⟩
    have HB2 := Lib.hid ((HB1.out.set (k' := 1) 0 (.int .i64 1) rfl).below hb2)
    clear hb2 x0 x1 x2 x3 xf0 xf1 xf2 xf3 z0 z1 z2 z3 zf0 zf1 zf2 zf3
    obtain ⟨x0, x1, x2, x3, xf⟩ := blk4 HB2.out.2.1
    have xf0 := xf 0
    have xf1 := xf 1
    have xf2 := xf 2
    have xf3 := xf 3
    obtain ⟨z0, z1, z2, z3, zf⟩ := blk4 HB2.out.1
    have zf0 := zf 0
    have zf1 := zf 1
    have zf2 := zf 2
    have zf3 := zf 3
    clear xf zf
    go_wp2_with fail
    refine bodyPost_ret (v := .tuple #[.agg #[.int .i64 0, .string ⟨#[]⟩, .string ⟨#[]⟩, .string ⟨#[]⟩], .int .i64 j, .int .i64 1]) (by simp [results, Tryz.results26, go_sem, z0, z1, z2, z3]) rfl ?_
    rw [HRR.out]
    exact ⟨rfl, RB.end4 (HB2.out.set 1 _ rfl) _ _ _ _⟩
  | some r =>
    have HFO : Hid (formT l p = (some (.iri (tBytes r)), j)) := Lib.hid (by rw [HF.out]; rfl)
    dsimp only [Option.getD, Option.isSome] at HI
    go_enter Tryz.func26, Tryz.ntmps26
    go_wp2_with fail
    rw [← HW1.out]
    refine HS.out.mono ?_
    rintro e w' ⟨rfl, rfl⟩
    go_wp2_with fail
    refine (HI.out _ (HB1.out.set (k' := 1) 0 _ rfl).2.2).mono ?_
    rintro e w2 ⟨rfl, hb2⟩
    have HB2 := Lib.hid ((HB1.out.set (k' := 1) 0 (.int .i64 1) rfl).below hb2)
    clear hb2 x0 x1 x2 x3 xf0 xf1 xf2 xf3 z0 z1 z2 z3 zf0 zf1 zf2 zf3
    obtain ⟨x0, x1, x2, x3, xf⟩ := blk4 HB2.out.2.1
    have xf0 := xf 0
    have xf1 := xf 1
    have xf2 := xf 2
    have xf3 := xf 3
    obtain ⟨z0, z1, z2, z3, zf⟩ := blk4 HB2.out.1
    have zf0 := zf 0
    have zf1 := zf 1
    have zf2 := zf 2
    have zf3 := zf 3
    clear xf zf
    have HGX : Hid (∀ w2, Calls Tryz.prog 23 #[.agg #[.int .i64 1, .string (tBytes r), .string ⟨#[]⟩, .string ⟨#[]⟩]] w2 fun e w' => e = .returned (.bool (G (.iri (tBytes r)))) ∧ Below w2.heap.size w2 w') := Lib.hid (fun w2 => (HGF.out (.iri (tBytes r)) (form_facts HL.out HLB.out HFO.out).2.2.1).2.1 w2)
    obtain ⟨gx, hgx⟩ : ∃ gx, gx = G (.iri (tBytes r)) := ⟨_, rfl⟩
    rw [← hgx] at HGX
    cases gx with
    | true =>
      have HRR : Hid (R = (some (.iri (tBytes r)), j, 0)) := Lib.hid (by rw [HR.out]; unfold readT; rw [HFO.out]; dsimp only; rw [if_pos hgx.symm])
      clear hgx
      go_wp2_with fail
      refine (HGX.out _).mono ?_
      rintro e w9 ⟨rfl, hb9⟩
      have HB9 := Lib.hid ((HB2.out.set 1 (.string (tBytes r)) rfl).below hb9)
      clear hb9 x0 x1 x2 x3 xf0 xf1 xf2 xf3 z0 z1 z2 z3 zf0 zf1 zf2 zf3
      obtain ⟨x0, x1, x2, x3, xf⟩ := blk4 HB9.out.2.1
      have xf0 := xf 0
      have xf1 := xf 1
      have xf2 := xf 2
      have xf3 := xf 3
      obtain ⟨z0, z1, z2, z3, zf⟩ := blk4 HB9.out.1
      have zf0 := zf 0
      have zf1 := zf 1
      have zf2 := zf 2
      have zf3 := zf 3
      clear xf zf
      go_wp2_with fail
      refine bodyPost_ret (v := .tuple #[.agg #[.int .i64 1, .string (tBytes r), .string ⟨#[]⟩, .string ⟨#[]⟩], .int .i64 j, .int .i64 0]) (by simp [results, Tryz.results26, go_sem, z0, z1, z2, z3]) rfl ?_
      rw [HRR.out]
      exact ⟨rfl, RB.end4 HB9.out _ _ _ _⟩
    | false =>
      have HRR : Hid (R = (none, p, 3)) := Lib.hid (by rw [HR.out]; unfold readT; rw [HFO.out]; dsimp only; rw [if_neg (by rw [← hgx]; decide)])
      clear hgx
      go_wp2_with fail
      refine (HGX.out _).mono ?_
      rintro e w9 ⟨rfl, hb9⟩
      have HB9 := Lib.hid ((HB2.out.set 1 (.string (tBytes r)) rfl).below hb9)
      clear hb9 x0 x1 x2 x3 xf0 xf1 xf2 xf3 z0 z1 z2 z3 zf0 zf1 zf2 zf3
      obtain ⟨x0, x1, x2, x3, xf⟩ := blk4 HB9.out.2.1
      have xf0 := xf 0
      have xf1 := xf 1
      have xf2 := xf 2
      have xf3 := xf 3
      obtain ⟨z0, z1, z2, z3, zf⟩ := blk4 HB9.out.1
      have zf0 := zf 0
      have zf1 := zf 1
      have zf2 := zf 2
      have zf3 := zf 3
      clear xf zf
      go_wp2_with fail
      refine bodyPost_ret (v := .tuple #[.agg #[.int .i64 0, .string ⟨#[]⟩, .string ⟨#[]⟩, .string ⟨#[]⟩], .int .i64 p, .int .i64 3]) (by simp [results, Tryz.results26, go_sem, z0, z1, z2, z3]) rfl ?_
      rw [HRR.out]
      exact ⟨rfl, RB.end4 HB9.out _ _ _ _⟩
end Go.Proofs.YtbchkhjkajagfaaGreatDoor
