/- Contract over this seat's program: becklaw04.Few: the first ten triples, each made plain; or a text is long. -/
import Derived.Test.YtbchkhjkajagfaaDoorNtRef
import Derived.Test.YtbchkhjkajagfaaDoorRaws3
namespace Go.Proofs.YtbchkhjkajagfaaDoor
open Go Go.RowKit
set_option linter.unusedVariables false
set_option linter.unusedSimpArgs false
set_option maxRecDepth 100000
def rawK (r : Raw) : Tm := termK r.k r.x r.t r.l
theorem rawK_small {r : Raw} (h : short5 r.x r.t r.l = true) : Small (rawK r) := by
  unfold short5 at h
  simp only [Bool.and_eq_true, decide_eq_true_eq] at h
  unfold rawK termK
  split
  · exact ⟨show r.x.size ≤ _ by omega, show (⟨#[]⟩ : ByteArray).size ≤ _ by decide, show (⟨#[]⟩ : ByteArray).size ≤ _ by decide⟩
  · split
    · exact ⟨show r.x.size ≤ _ by omega, show (⟨#[]⟩ : ByteArray).size ≤ _ by decide, show (⟨#[]⟩ : ByteArray).size ≤ _ by decide⟩
    · exact ⟨show r.x.size ≤ _ by omega, show r.t.size ≤ _ by omega, show r.l.size ≤ _ by omega⟩
/-- a triple as it came in -/
def tri3 (r : Raw3) : Tri := ⟨rawK r.s, rawK r.p, rawK r.o⟩
def short3 (r : Raw3) : Bool := short5 r.s.x r.s.t r.s.l && short5 r.p.x r.p.t r.p.l && short5 r.o.x r.o.t r.o.l
theorem tri3_key (r : Raw3) : KeyTri (tri3 r) := ⟨termK_key _ _ _ _, termK_key _ _ _ _, termK_key _ _ _ _⟩
theorem tri3_small {r : Raw3} (h : short3 r = true) : SmallTri (tri3 r) := by
  unfold short3 at h
  simp only [Bool.and_eq_true] at h
  exact ⟨rawK_small h.1.1, rawK_small h.1.2, rawK_small h.2⟩
theorem box_new (w : World) (cs : Array Value) (T : TypeId) : (w.alloc (.cells cs T)).heap[w.heap.size]? = some (.cells cs T (0, 0)) := (MapKept.heap_alloc w _).1
theorem eltRTri : Elt Tryd.prog 42 47 12 168 rtriC where
  ht := Tryd.underlying42
  hi := elt_info (z := .agg #[.int .i64 0, .string ⟨#[]⟩, .string ⟨#[]⟩, .string ⟨#[]⟩, .int .i64 0, .string ⟨#[]⟩, .string ⟨#[]⟩, .string ⟨#[]⟩, .int .i64 0, .string ⟨#[]⟩, .string ⟨#[]⟩, .string ⟨#[]⟩]) (by kernel_rfl) rfl
  len := rtriC_len
  one := by
    intro X u hu
    simp only [rtriC, List.mem_cons, List.not_mem_nil, or_false] at hu
    rcases hu with rfl | rfl | rfl | rfl | rfl | rfl | rfl | rfl | rfl | rfl | rfl | rfl <;> rfl
  pos := by decide
  small := by decide
/-- the first triples, made plain, and whether none of their texts is long -/
def fewT (rs : List Raw3) : List Tri := (rs.take 10).map tri3
def fewB (rs : List Raw3) : Bool := (rs.take 10).all short3
theorem few_snoc {rs : List Raw3} {k : Nat} (hk : k < rs.length) : (rs.take (k + 1)).map tri3 = (rs.take k).map tri3 ++ [tri3 (rs[k]'hk)] := by
  rw [List.take_succ_eq_append_getElem hk, List.map_append, List.map_singleton]
theorem few_all {rs : List Raw3} {k : Nat} (hk : k < rs.length) (h : (rs.take k).all short3 = true) (hs : short3 (rs[k]'hk) = true) : (rs.take (k + 1)).all short3 = true := by
  rw [List.take_succ_eq_append_getElem hk, List.all_append, h]
  simp [hs]
theorem few_bad {rs : List Raw3} {k : Nat} (hk : k < rs.length) (h10 : k < 10) (hs : short3 (rs[k]'hk) = false) : fewB rs = false := by
  unfold fewB
  rw [← Bool.not_eq_true]
  intro h
  have hm : rs[k]'hk ∈ rs.take 10 := List.mem_iff_getElem.2 ⟨k, by rw [List.length_take]; omega, by rw [List.getElem_take]⟩
  have := List.all_eq_true.1 h _ hm
  rw [hs] at this
  cases this
theorem fewT_len (rs : List Raw3) : (fewT rs).length ≤ 10 := by unfold fewT; rw [List.length_map, List.length_take]; omega
theorem fewT_key (rs : List Raw3) : ∀ t ∈ fewT rs, KeyTri t := by
  intro t ht
  obtain ⟨r, _, rfl⟩ := List.mem_map.1 ht
  exact tri3_key r
theorem fewT_small {rs : List Raw3} (h : fewB rs = true) : ∀ t ∈ fewT rs, SmallTri t := by
  intro t ht
  obtain ⟨r, hr, rfl⟩ := List.mem_map.1 ht
  exact tri3_small (List.all_eq_true.1 h r hr)
set_option maxHeartbeats 6400000 in
theorem few_any (a : Option Addr) (rs : List Raw3) (cap : Nat) (w : World) (h : Raw3sAt w a rs) (hl : rs.length ≤ 9223372036854775807) :
    Calls Tryd.prog 16 #[.slice a rs.length cap] w fun e w' => ∃ V, e = .returned (.tuple #[V, .bool (fewB rs)]) ∧ Below w.heap.size w w' ∧ (fewB rs = true → RTriRow w' w.heap.size V (fewT rs)) := by
  have HR := Lib.hid h
  clear h
  go_enter Tryd.func16, Tryd.ntmps16
  go_wp2_with fail
  go_loopw [4, 11] (fun V i wr => ∃ k : Nat, k ≤ rs.length ∧ k ≤ 10 ∧ i = .int .i64 k ∧ Hid (Below w.heap.size w wr ∧ (rs.take k).all short3 = true ∧ RTriRow wr w.heap.size V ((rs.take k).map tri3))) (fun _ i _ => 10 - (intOf i).toNat)
  case atStart => exact ⟨0, by omega, by omega, rfl, Lib.hid ⟨Below.refl _ _, rfl, RowOf.nil _ _⟩⟩
  case round =>
    obtain ⟨k, hk, hk10, rfl, hc⟩ := hrel
    obtain ⟨wo, hwo⟩ : ∃ wo : World, wo = wr := ⟨_, rfl⟩
    subst hwo
    obtain ⟨va, vc, hV⟩ := hc.out.2.2.form
    have hvl : ((rs.take k).map tri3).length = k := by rw [List.length_map, List.length_take]; omega
    rw [hvl] at hV
    subst hV
    clear hvl
    by_cases hlt : k < rs.length
    · obtain ⟨b, off, rfl, ⟨r0, r1, r2, r3, i0⟩, ⟨r4, r5, r6, r7, i1⟩, ⟨r8, r9, r10, r11, i2⟩⟩ := (HR.out.below hc.out.1).at_ k hlt
      have HBAD : Hid (k < 10 → short3 (rs[k]'hlt) = false → fewB rs = false) := Lib.hid (fun h10 hs => few_bad hlt h10 hs)
      have HALL : Hid (short3 (rs[k]'hlt) = true → (rs.take (k + 1)).all short3 = true) := Lib.hid (fun hs => few_all hlt hc.out.2.1 hs)
      have HSN := Lib.hid (few_snoc hlt)
      obtain ⟨r, hr⟩ : ∃ r, r = rs[k]'hlt := ⟨_, rfl⟩
      rw [← hr] at r0 r1 r2 r3 r4 r5 r6 r7 r8 r9 r10 r11 HBAD HALL HSN
      clear i0 i1 i2
      have HRR := Lib.hid hr
      clear hr
      obtain ⟨⟨k1, s1, t1, l1⟩, ⟨k2, s2, t2, l2⟩, ⟨k3, s3, t3, l3⟩⟩ := r
      dsimp only at r0 r1 r2 r3 r4 r5 r6 r7 r8 r9 r10 r11
      replace r5 : wo.cell? ⟨b, off + k * 12 + 5, none⟩ = some (.string s2) := r5
      replace r6 : wo.cell? ⟨b, off + k * 12 + 6, none⟩ = some (.string t2) := r6
      replace r7 : wo.cell? ⟨b, off + k * 12 + 7, none⟩ = some (.string l2) := r7
      replace r9 : wo.cell? ⟨b, off + k * 12 + 9, none⟩ = some (.string s3) := r9
      replace r10 : wo.cell? ⟨b, off + k * 12 + 10, none⟩ = some (.string t3) := r10
      replace r11 : wo.cell? ⟨b, off + k * 12 + 11, none⟩ = some (.string l3) := r11
      have b1 : (0 : Int) ≤ (k : Int) := by omega
      have b2 : (k : Int) < (rs.length : Int) := by omega
      by_cases hk9 : k = 10
      · have hfin : fewB rs = true ∧ fewT rs = (rs.take k).map tri3 := ⟨by unfold fewB; rw [← hk9]; exact hc.out.2.1, by unfold fewT; rw [← hk9]⟩
        have HF := Lib.hid hfin
        have t4 : ((k : Int) == 10) = true := by simp [hk9]
        clear hk9 hfin
        go_wp2_with fail
        go_ret2
        refine ⟨_, by rw [HF.out.1]; rfl, hc.out.1.alloc hc.out.1.size _, fun _ => ?_⟩
        rw [HF.out.2]
        exact hc.out.2.2.below ((Below.refl _ _).alloc (Nat.le_refl _) _)
      · have hlt10 : k < 10 := by omega
        have t4 : ((k : Int) == 10) = false := by simp; omega
        clear hk9
        have HOWN := Lib.hid (fun q e => (hc.out.2.2.own_lt q e).2)
        obtain ⟨W1, hW1⟩ : ∃ W1, W1 = wo.alloc (.cells #[.int .i64 k1, .string s1, .string t1, .string l1, .int .i64 k2, .string s2, .string t2, .string l2, .int .i64 k3, .string s3, .string t3, .string l3] 47) := ⟨_, rfl⟩
        have hbw : Below wo.heap.size wo W1 := by rw [hW1]; exact (Below.refl _ _).alloc (Nat.le_refl _) _
        have hbx : W1.heap[wo.heap.size]? = some (.cells #[.int .i64 k1, .string s1, .string t1, .string l1, .int .i64 k2, .string s2, .string t2, .string l2, .int .i64 k3, .string s3, .string t3, .string l3] 47 (0, 0)) := by rw [hW1]; exact box_new wo _ _
        have HC1 := Lib.hid (hc.out.1.trans (hbw.mono hc.out.1.size))
        have HX1 := Lib.hid hbx
        have HR1 := Lib.hid (hc.out.2.2.below hbw)
        obtain ⟨c0, c1, c2, c3, c4, c5, c6, c7, c8, c9, c10, c11⟩ := cells12 hbx
        have HW1 := Lib.hid hW1
        clear hbw hbx hW1 hc
        go_wp2_with fail
        rw [← HW1.out]
        have hi0 : ∀ w, (Instr.index 97 (.agg #[.int .i64 k1, .string s1, .string t1, .string l1, .int .i64 k2, .string s2, .string t2, .string l2, .int .i64 k3, .string s3, .string t3, .string l3]) (.int .i64 0)).run Tryd.prog w = .ok (.agg #[.int .i64 k1, .string s1, .string t1, .string l1]) w := fun _ => by kernel_rfl
        have hi1 : ∀ w, (Instr.index 97 (.agg #[.int .i64 k1, .string s1, .string t1, .string l1, .int .i64 k2, .string s2, .string t2, .string l2, .int .i64 k3, .string s3, .string t3, .string l3]) (.int .i64 1)).run Tryd.prog w = .ok (.agg #[.int .i64 k2, .string s2, .string t2, .string l2]) w := fun _ => by kernel_rfl
        have hi2 : ∀ w, (Instr.index 97 (.agg #[.int .i64 k1, .string s1, .string t1, .string l1, .int .i64 k2, .string s2, .string t2, .string l2, .int .i64 k3, .string s3, .string t3, .string l3]) (.int .i64 2)).run Tryd.prog w = .ok (.agg #[.int .i64 k3, .string s3, .string t3, .string l3]) w := fun _ => by kernel_rfl
        clear r0 r1 r2 r3 r4 r5 r6 r7 r8 r9 r10 r11
        go_wp2_with fail
        clear c0 c1 c2 c3 c4 c5 c6 c7 c8 c9 c10 c11
        go_loopw [25] (fun i wq => ∃ j : Nat, j ≤ 3 ∧ i = .int .i64 j ∧ Hid (Below W1.heap.size W1 wq ∧ (0 < j → short5 s1 t1 l1 = true) ∧ (1 < j → short5 s2 t2 l2 = true) ∧ (2 < j → short5 s3 t3 l3 = true))) (fun i _ => 3 - (intOf i).toNat)
        case atStart => exact ⟨0, by omega, rfl, Lib.hid ⟨Below.refl _ _, fun h => by omega, fun h => by omega, fun h => by omega⟩⟩
        case round =>
          obtain ⟨j, hj, rfl, HJ⟩ := hrel
          rcases (by omega : j = 0 ∨ j = 1 ∨ j = 2 ∨ j = 3) with rfl | rfl | rfl | rfl
          · rw [show ((0 : Nat) : Int) = 0 from rfl]
            by_cases a1 : (300 : Int) < s1.size
            · have hbad : short3 ⟨⟨k1, s1, t1, l1⟩, ⟨k2, s2, t2, l2⟩, ⟨k3, s3, t3, l3⟩⟩ = false := by
                have : ¬ ((s1.size : Int) ≤ 300) := by omega
                unfold short3 short5; simp [this]
              have q1 : decide ((300 : Int) < s1.size) = true := decide_eq_true a1
              have HBD := Lib.hid (HBAD.out hlt10 hbad)
              clear hbad a1
              go_wp2_with fail
              go_ret2
              exact ⟨_, by rw [HBD.out]; rfl, HC1.out.trans ((HJ.out.1.alloc HJ.out.1.size _).mono HC1.out.size), fun h => by rw [HBD.out] at h; cases h⟩
            · by_cases a2 : (300 : Int) < t1.size
              · have hbad : short3 ⟨⟨k1, s1, t1, l1⟩, ⟨k2, s2, t2, l2⟩, ⟨k3, s3, t3, l3⟩⟩ = false := by
                  have : ¬ ((t1.size : Int) ≤ 300) := by omega
                  unfold short3 short5; simp [this]
                have q1 : decide ((300 : Int) < s1.size) = false := decide_eq_false a1
                have q2 : decide ((300 : Int) < t1.size) = true := decide_eq_true a2
                have HBD := Lib.hid (HBAD.out hlt10 hbad)
                clear hbad a1 a2
                go_wp2_with fail
                go_ret2
                exact ⟨_, by rw [HBD.out]; rfl, HC1.out.trans ((HJ.out.1.alloc HJ.out.1.size _).mono HC1.out.size), fun h => by rw [HBD.out] at h; cases h⟩
              · by_cases a3 : (100 : Int) < l1.size
                · have hbad : short3 ⟨⟨k1, s1, t1, l1⟩, ⟨k2, s2, t2, l2⟩, ⟨k3, s3, t3, l3⟩⟩ = false := by
                    have : ¬ ((l1.size : Int) ≤ 100) := by omega
                    unfold short3 short5; simp [this]
                  have q1 : decide ((300 : Int) < s1.size) = false := decide_eq_false a1
                  have q2 : decide ((300 : Int) < t1.size) = false := decide_eq_false a2
                  have q3 : decide ((100 : Int) < l1.size) = true := decide_eq_true a3
                  have HBD := Lib.hid (HBAD.out hlt10 hbad)
                  clear hbad a1 a2 a3
                  go_wp2_with fail
                  go_ret2
                  exact ⟨_, by rw [HBD.out]; rfl, HC1.out.trans ((HJ.out.1.alloc HJ.out.1.size _).mono HC1.out.size), fun h => by rw [HBD.out] at h; cases h⟩
                · have q1 : decide ((300 : Int) < s1.size) = false := decide_eq_false a1
                  have q2 : decide ((300 : Int) < t1.size) = false := decide_eq_false a2
                  have q3 : decide ((100 : Int) < l1.size) = false := decide_eq_false a3
                  have hok : short5 s1 t1 l1 = true := by unfold short5; simp; omega
                  have HOK := Lib.hid hok
                  clear a1 a2 a3 hok
                  go_wp2_with fail
                  exact ⟨⟨1, by omega, rfl, Lib.hid ⟨HJ.out.1.alloc HJ.out.1.size _, fun _ => HOK.out, fun h => by omega, fun h => by omega⟩⟩, by simp [intOf]⟩
          · rw [show ((1 : Nat) : Int) = 1 from rfl]
            by_cases a1 : (300 : Int) < s2.size
            · have hbad : short3 ⟨⟨k1, s1, t1, l1⟩, ⟨k2, s2, t2, l2⟩, ⟨k3, s3, t3, l3⟩⟩ = false := by
                have : ¬ ((s2.size : Int) ≤ 300) := by omega
                unfold short3 short5; simp [this]
              have q1 : decide ((300 : Int) < s2.size) = true := decide_eq_true a1
              have HBD := Lib.hid (HBAD.out hlt10 hbad)
              clear hbad a1
              go_wp2_with fail
              go_ret2
              exact ⟨_, by rw [HBD.out]; rfl, HC1.out.trans ((HJ.out.1.alloc HJ.out.1.size _).mono HC1.out.size), fun h => by rw [HBD.out] at h; cases h⟩
            · by_cases a2 : (300 : Int) < t2.size
              · have hbad : short3 ⟨⟨k1, s1, t1, l1⟩, ⟨k2, s2, t2, l2⟩, ⟨k3, s3, t3, l3⟩⟩ = false := by
                  have : ¬ ((t2.size : Int) ≤ 300) := by omega
                  unfold short3 short5; simp [this]
                have q1 : decide ((300 : Int) < s2.size) = false := decide_eq_false a1
                have q2 : decide ((300 : Int) < t2.size) = true := decide_eq_true a2
                have HBD := Lib.hid (HBAD.out hlt10 hbad)
                clear hbad a1 a2
                go_wp2_with fail
                go_ret2
                exact ⟨_, by rw [HBD.out]; rfl, HC1.out.trans ((HJ.out.1.alloc HJ.out.1.size _).mono HC1.out.size), fun h => by rw [HBD.out] at h; cases h⟩
              · by_cases a3 : (100 : Int) < l2.size
                · have hbad : short3 ⟨⟨k1, s1, t1, l1⟩, ⟨k2, s2, t2, l2⟩, ⟨k3, s3, t3, l3⟩⟩ = false := by
                    have : ¬ ((l2.size : Int) ≤ 100) := by omega
                    unfold short3 short5; simp [this]
                  have q1 : decide ((300 : Int) < s2.size) = false := decide_eq_false a1
                  have q2 : decide ((300 : Int) < t2.size) = false := decide_eq_false a2
                  have q3 : decide ((100 : Int) < l2.size) = true := decide_eq_true a3
                  have HBD := Lib.hid (HBAD.out hlt10 hbad)
                  clear hbad a1 a2 a3
                  go_wp2_with fail
                  go_ret2
                  exact ⟨_, by rw [HBD.out]; rfl, HC1.out.trans ((HJ.out.1.alloc HJ.out.1.size _).mono HC1.out.size), fun h => by rw [HBD.out] at h; cases h⟩
                · have q1 : decide ((300 : Int) < s2.size) = false := decide_eq_false a1
                  have q2 : decide ((300 : Int) < t2.size) = false := decide_eq_false a2
                  have q3 : decide ((100 : Int) < l2.size) = false := decide_eq_false a3
                  have hok : short5 s2 t2 l2 = true := by unfold short5; simp; omega
                  have HOK := Lib.hid hok
                  clear a1 a2 a3 hok
                  go_wp2_with fail
                  exact ⟨⟨2, by omega, rfl, Lib.hid ⟨HJ.out.1.alloc HJ.out.1.size _, fun _ => HJ.out.2.1 (by omega), fun _ => HOK.out, fun h => by omega⟩⟩, by simp [intOf]⟩
          · rw [show ((2 : Nat) : Int) = 2 from rfl]
            by_cases a1 : (300 : Int) < s3.size
            · have hbad : short3 ⟨⟨k1, s1, t1, l1⟩, ⟨k2, s2, t2, l2⟩, ⟨k3, s3, t3, l3⟩⟩ = false := by
                have : ¬ ((s3.size : Int) ≤ 300) := by omega
                unfold short3 short5; simp [this]
              have q1 : decide ((300 : Int) < s3.size) = true := decide_eq_true a1
              have HBD := Lib.hid (HBAD.out hlt10 hbad)
              clear hbad a1
              go_wp2_with fail
              go_ret2
              exact ⟨_, by rw [HBD.out]; rfl, HC1.out.trans ((HJ.out.1.alloc HJ.out.1.size _).mono HC1.out.size), fun h => by rw [HBD.out] at h; cases h⟩
            · by_cases a2 : (300 : Int) < t3.size
              · have hbad : short3 ⟨⟨k1, s1, t1, l1⟩, ⟨k2, s2, t2, l2⟩, ⟨k3, s3, t3, l3⟩⟩ = false := by
                  have : ¬ ((t3.size : Int) ≤ 300) := by omega
                  unfold short3 short5; simp [this]
                have q1 : decide ((300 : Int) < s3.size) = false := decide_eq_false a1
                have q2 : decide ((300 : Int) < t3.size) = true := decide_eq_true a2
                have HBD := Lib.hid (HBAD.out hlt10 hbad)
                clear hbad a1 a2
                go_wp2_with fail
                go_ret2
                exact ⟨_, by rw [HBD.out]; rfl, HC1.out.trans ((HJ.out.1.alloc HJ.out.1.size _).mono HC1.out.size), fun h => by rw [HBD.out] at h; cases h⟩
              · by_cases a3 : (100 : Int) < l3.size
                · have hbad : short3 ⟨⟨k1, s1, t1, l1⟩, ⟨k2, s2, t2, l2⟩, ⟨k3, s3, t3, l3⟩⟩ = false := by
                    have : ¬ ((l3.size : Int) ≤ 100) := by omega
                    unfold short3 short5; simp [this]
                  have q1 : decide ((300 : Int) < s3.size) = false := decide_eq_false a1
                  have q2 : decide ((300 : Int) < t3.size) = false := decide_eq_false a2
                  have q3 : decide ((100 : Int) < l3.size) = true := decide_eq_true a3
                  have HBD := Lib.hid (HBAD.out hlt10 hbad)
                  clear hbad a1 a2 a3
                  go_wp2_with fail
                  go_ret2
                  exact ⟨_, by rw [HBD.out]; rfl, HC1.out.trans ((HJ.out.1.alloc HJ.out.1.size _).mono HC1.out.size), fun h => by rw [HBD.out] at h; cases h⟩
                · have q1 : decide ((300 : Int) < s3.size) = false := decide_eq_false a1
                  have q2 : decide ((300 : Int) < t3.size) = false := decide_eq_false a2
                  have q3 : decide ((100 : Int) < l3.size) = false := decide_eq_false a3
                  have hok : short5 s3 t3 l3 = true := by unfold short5; simp; omega
                  have HOK := Lib.hid hok
                  clear a1 a2 a3 hok
                  go_wp2_with fail
                  exact ⟨⟨3, by omega, rfl, Lib.hid ⟨HJ.out.1.alloc HJ.out.1.size _, fun _ => HJ.out.2.1 (by omega), fun _ => HJ.out.2.2.1 (by omega), fun _ => HOK.out⟩⟩, by simp [intOf]⟩
          · rw [show ((3 : Nat) : Int) = 3 from rfl]
            have HS3 := Lib.hid (show short3 ⟨⟨k1, s1, t1, l1⟩, ⟨k2, s2, t2, l2⟩, ⟨k3, s3, t3, l3⟩⟩ = true by
              unfold short3
              rw [HJ.out.2.1 (by omega), HJ.out.2.2.1 (by omega), HJ.out.2.2.2 (by omega)]
              rfl)
            have HX3 := Lib.hid (boxb HX1.out HJ.out.1)
            have HB3 := Lib.hid (HC1.out.trans (HJ.out.1.mono HC1.out.size))
            have HR3 := Lib.hid (HR1.out.below HJ.out.1)
            obtain ⟨X1, hX1⟩ : ∃ X, X = termK k1 s1 t1 l1 := ⟨_, rfl⟩
            obtain ⟨X2, hX2⟩ : ∃ X, X = termK k2 s2 t2 l2 := ⟨_, rfl⟩
            obtain ⟨X3, hX3⟩ : ∃ X, X = termK k3 s3 t3 l3 := ⟨_, rfl⟩
            have HP1 := Lib.hid (fun w => plain4_any k1 s1 t1 l1 w)
            have HP2 := Lib.hid (fun w => plain4_any k2 s2 t2 l2 w)
            have HP3 := Lib.hid (fun w => plain4_any k3 s3 t3 l3 w)
            rw [← hX1] at HP1
            rw [← hX2] at HP2
            rw [← hX3] at HP3
            unfold refT at HP1 HP2 HP3
            have HTR := Lib.hid (show tri3 ⟨⟨k1, s1, t1, l1⟩, ⟨k2, s2, t2, l2⟩, ⟨k3, s3, t3, l3⟩⟩ = ⟨X1, X2, X3⟩ by rw [hX1, hX2, hX3]; rfl)
            clear hX1 hX2 hX3
            go_wp2_with fail
            refine wp_region_held_drew (S := (fun w' => w'.heap[wo.heap.size]? = some (.cells #[.int .i64 k1, .string s1, .string t1, .string l1, .int .i64 k2, .string s2, .string t2, .string l2, .int .i64 k3, .string s3, .string t3, .string l3] 47 (0, 0)))) (by kernel_rfl) ?hSfew0 (fun hHeld => ?_)
            case hSfew0 => exact HX3.out
            refine wpAnyH_take (i := 0) (oi := ⟨some 45, _, _, _, _, _⟩) (v := ?vfew0) rfl (by kernel_rfl) (by kernel_rfl) (by kernel_rfl) (fun _ _ _ h => h) (Or.inl ⟨by kernel_rfl, ?yfew0⟩) (by assumption) ?rfew0
            case yfew0 =>
              intro w hSw
              try dsimp only at hSw
              obtain ⟨c0, c1, c2, c3, c4, c5, c6, c7, c8, c9, c10, c11⟩ := cells12 hSw
              first | (go_simp; done) | (go_simp; with_reducible rfl)
            try simp only [Act.put, List.setIfInBounds_toArray, List.set_cons_zero, List.set_cons_succ]
            refine wpAnyH_take (i := 1) (oi := ⟨some 46, _, _, _, _, _⟩) (v := ?vfew1) rfl (by kernel_rfl) (by kernel_rfl) (by kernel_rfl) (fun _ _ _ h => h) (Or.inl ⟨by kernel_rfl, ?yfew1⟩) (by assumption) ?rfew1
            case yfew1 =>
              intro w hSw
              try dsimp only at hSw
              obtain ⟨c0, c1, c2, c3, c4, c5, c6, c7, c8, c9, c10, c11⟩ := cells12 hSw
              first | (go_simp; done) | (go_simp; with_reducible rfl)
            try simp only [Act.put, List.setIfInBounds_toArray, List.set_cons_zero, List.set_cons_succ]
            refine wpAnyH_take (i := 2) (oi := ⟨some 47, _, _, _, _, _⟩) (v := ?vfew2) rfl (by kernel_rfl) (by kernel_rfl) (by kernel_rfl) (fun _ _ _ h => h) (Or.inl ⟨by kernel_rfl, ?yfew2⟩) (by assumption) ?rfew2
            case yfew2 =>
              intro w hSw
              try dsimp only at hSw
              obtain ⟨c0, c1, c2, c3, c4, c5, c6, c7, c8, c9, c10, c11⟩ := cells12 hSw
              first | (go_simp; done) | (go_simp; with_reducible rfl)
            try simp only [Act.put, List.setIfInBounds_toArray, List.set_cons_zero, List.set_cons_succ]
            refine wpAnyH_take (i := 4) (oi := ⟨some 49, _, _, _, _, _⟩) (v := ?vfew4) rfl (by kernel_rfl) (by kernel_rfl) (by kernel_rfl) (fun _ _ _ h => h) (Or.inl ⟨by kernel_rfl, ?yfew4⟩) (by assumption) ?rfew4
            case yfew4 =>
              intro w hSw
              try dsimp only at hSw
              obtain ⟨c0, c1, c2, c3, c4, c5, c6, c7, c8, c9, c10, c11⟩ := cells12 hSw
              first | (go_simp; done) | (go_simp; with_reducible rfl)
            try simp only [Act.put, List.setIfInBounds_toArray, List.set_cons_zero, List.set_cons_succ]
            refine wpAnyH_take (i := 5) (oi := ⟨some 50, _, _, _, _, _⟩) (v := ?vfew5) rfl (by kernel_rfl) (by kernel_rfl) (by kernel_rfl) (fun _ _ _ h => h) (Or.inl ⟨by kernel_rfl, ?yfew5⟩) (by assumption) ?rfew5
            case yfew5 =>
              intro w hSw
              try dsimp only at hSw
              obtain ⟨c0, c1, c2, c3, c4, c5, c6, c7, c8, c9, c10, c11⟩ := cells12 hSw
              first | (go_simp; done) | (go_simp; with_reducible rfl)
            try simp only [Act.put, List.setIfInBounds_toArray, List.set_cons_zero, List.set_cons_succ]
            refine wpAnyH_take (i := 7) (oi := ⟨some 52, _, _, _, _, _⟩) (v := ?vfew7) rfl (by kernel_rfl) (by kernel_rfl) (by kernel_rfl) (fun _ _ _ h => h) (Or.inl ⟨by kernel_rfl, ?yfew7⟩) (by assumption) ?rfew7
            case yfew7 =>
              intro w hSw
              try dsimp only at hSw
              obtain ⟨c0, c1, c2, c3, c4, c5, c6, c7, c8, c9, c10, c11⟩ := cells12 hSw
              first | (go_simp; done) | (go_simp; with_reducible rfl)
            try simp only [Act.put, List.setIfInBounds_toArray, List.set_cons_zero, List.set_cons_succ]
            refine wpAnyH_take (i := 8) (oi := ⟨some 53, _, _, _, _, _⟩) (v := ?vfew8) rfl (by kernel_rfl) (by kernel_rfl) (by kernel_rfl) (fun _ _ _ h => h) (Or.inl ⟨by kernel_rfl, ?yfew8⟩) (by assumption) ?rfew8
            case yfew8 =>
              intro w hSw
              try dsimp only at hSw
              obtain ⟨c0, c1, c2, c3, c4, c5, c6, c7, c8, c9, c10, c11⟩ := cells12 hSw
              first | (go_simp; done) | (go_simp; with_reducible rfl)
            try simp only [Act.put, List.setIfInBounds_toArray, List.set_cons_zero, List.set_cons_succ]
            refine wpAnyH_ready (rs := [3]) (by kernel_rfl) (by simp) ?_
            refine AllReadyH.cons (i := 3) (o := ⟨some 48, _, _, _, _, _⟩) rfl (fun K hK => ?_) AllReadyH.nil
            go_simp
            refine (HP1.out _).mono ?_
            rintro e w1 ⟨rfl, hb1⟩
            have HB := Lib.hid (HB3.out.drew.trans (hb1.mono (show w.heap.size ≤ wr.drew.heap.size from HB3.out.size)))
            have HRW := Lib.hid ((HR3.out.below (Below.refl _ _).drew).below hb1)
            go_wp2_with fail
            refine hK.out _ _ ?_ (fun hHeld => ?_)
            · exact boxb (by assumption) hb1
            clear hK K
            try simp only [Act.put, List.setIfInBounds_toArray, List.set_cons_zero, List.set_cons_succ]
            refine wpAnyH_ready (rs := [6]) (by kernel_rfl) (by simp) ?_
            refine AllReadyH.cons (i := 6) (o := ⟨some 51, _, _, _, _, _⟩) rfl (fun K hK => ?_) AllReadyH.nil
            go_simp
            refine (HP2.out _).mono ?_
            rintro e w2 ⟨rfl, hb2⟩
            replace HB := Lib.hid (HB.out.trans (hb2.mono HB.out.size))
            replace HRW := Lib.hid (HRW.out.below hb2)
            go_wp2_with fail
            refine hK.out _ _ ?_ (fun hHeld => ?_)
            · exact boxb (by assumption) hb2
            clear hK K
            try simp only [Act.put, List.setIfInBounds_toArray, List.set_cons_zero, List.set_cons_succ]
            refine wpAnyH_ready (rs := [9]) (by kernel_rfl) (by simp) ?_
            refine AllReadyH.cons (i := 9) (o := ⟨some 54, _, _, _, _, _⟩) rfl (fun K hK => ?_) AllReadyH.nil
            go_simp
            refine (HP3.out _).mono ?_
            rintro e w3 ⟨rfl, hb3⟩
            replace HB := Lib.hid (HB.out.trans (hb3.mono HB.out.size))
            replace HRW := Lib.hid (HRW.out.below hb3)
            go_wp2_with fail
            refine hK.out _ _ ?_ (fun hHeld => ?_)
            · exact boxb (by assumption) hb3
            clear hK K
            try simp only [Act.put, List.setIfInBounds_toArray, List.set_cons_zero, List.set_cons_succ]
            refine wpAnyH_take (i := 10) (oi := ⟨some 55, _, _, _, _, _⟩) (v := ?vfew10) rfl (by kernel_rfl) (by kernel_rfl) (by kernel_rfl) (fun _ _ _ h => h) (Or.inl ⟨by kernel_rfl, ?yfew10⟩) (by assumption) ?rfew10
            case yfew10 =>
              intro w hSw
              try dsimp only at hSw
              obtain ⟨c0, c1, c2, c3, c4, c5, c6, c7, c8, c9, c10, c11⟩ := cells12 hSw
              first | (go_simp; done) | (go_simp; with_reducible rfl)
            try simp only [Act.put, List.setIfInBounds_toArray, List.set_cons_zero, List.set_cons_succ]
            refine wpAnyH_ready (rs := [11]) (by kernel_rfl) (by simp) ?_
            refine AllReadyH.cons (i := 11) (o := ⟨some 56, _, _, _, _, _⟩) rfl (fun K hK => ?_) AllReadyH.nil
            go_simp
            have g5 := HB.out.alloc HB.out.size (.cells #[.int .i64 (kindV X1), .string (text0 X1), .string (text1 X1), .string (text2 X1), .int .i64 (kindV X2), .string (text0 X2), .string (text1 X2), .string (text2 X2), .int .i64 (kindV X3), .string (text0 X3), .string (text1 X3), .string (text2 X3)] 47)
            have r5 := HRW.out.below ((Below.refl w3.heap.size w3).alloc (Nat.le_refl _) (.cells #[.int .i64 (kindV X1), .string (text0 X1), .string (text1 X1), .string (text2 X1), .int .i64 (kindV X2), .string (text0 X2), .string (text1 X2), .string (text2 X2), .int .i64 (kindV X3), .string (text0 X3), .string (text1 X3), .string (text2 X3)] 47))
            have x5 : RTriRow (w3.alloc (.cells #[.int .i64 (kindV X1), .string (text0 X1), .string (text1 X1), .string (text2 X1), .int .i64 (kindV X2), .string (text0 X2), .string (text1 X2), .string (text2 X2), .int .i64 (kindV X3), .string (text0 X3), .string (text1 X3), .string (text2 X3)] 47)) w3.heap.size (.slice (some ⟨w3.heap.size, 0, none⟩) 1 1) [⟨X1, X2, X3⟩] := RowOf.new rtriC_len w3 [_] (by simp)
            refine hK.out _ _ ?_ (fun hHeld => ?_)
            · exact boxb (by assumption) ((Below.refl _ _).alloc (Nat.le_refl _) _)
            clear hK K
            try simp only [Act.put, List.setIfInBounds_toArray, List.set_cons_zero, List.set_cons_succ]
            refine wpAnyH_ready (rs := [12]) (by kernel_rfl) (by simp) ?_
            refine AllReadyH.cons (i := 12) (o := ⟨some 57, _, _, _, _, _⟩) rfl (fun K hK => ?_) AllReadyH.nil
            refine step_append_rows eltRTri _ (by rfl) (.tmp 45) (.tmp 56) (by rfl) w.heap.size w3.heap.size (.slice va k vc) (.slice (some ⟨w3.heap.size, 0, none⟩) 1 1) ((rs.take k).map tri3) [⟨X1, X2, X3⟩] (by rfl) (by rfl) r5 x5 (by simp; omega) g5.size ?_
            intro V4 w4 r4 q4 at4
            have g4 := g5.grown q4 g5.size (fun k hk => (r5.own_lt k hk).1)
            have R4 := Lib.hid (⟨r4, g4⟩ : _ ∧ _)
            refine hK.out _ _ ?_ (fun hHeld => ?_)
            · exact (q4.block _ (lt_heap (by assumption)) (fun e => absurd (HOWN.out _ e.symm) (Nat.lt_irrefl _))).trans (by assumption)
            clear hK K
            try simp only [Act.put, List.setIfInBounds_toArray, List.set_cons_zero, List.set_cons_succ]
            refine wpAnyH_take (i := 13) (oi := ⟨some 4, _, _, _, _, _⟩) (v := ?vfew13) rfl (by kernel_rfl) (by kernel_rfl) (by kernel_rfl) (fun _ _ _ h => h) (Or.inl ⟨by kernel_rfl, ?yfew13⟩) (by assumption) ?rfew13
            case yfew13 =>
              intro w hSw
              try dsimp only at hSw
              obtain ⟨c0, c1, c2, c3, c4, c5, c6, c7, c8, c9, c10, c11⟩ := cells12 hSw
              first | (go_simp; done) | (go_simp; with_reducible rfl)
            try simp only [Act.put, List.setIfInBounds_toArray, List.set_cons_zero, List.set_cons_succ]
            refine wpAnyH_done (by kernel_rfl) ?_ _
            go_wp2_with fail
            refine ⟨⟨k + 1, by omega, by omega, by push_cast; rfl, Lib.hid ⟨R4.out.2, HALL.out HS3.out, ?_⟩⟩, by simp only [intOf]; omega⟩
            rw [HSN.out, HTR.out]
            exact R4.out.1
    · have t1 : decide (k < rs.length) = false := decide_eq_false hlt
      have hfin : fewB rs = true ∧ fewT rs = (rs.take k).map tri3 := by
        have e1 : rs.take 10 = rs.take k := by rw [List.take_of_length_le (by omega), List.take_of_length_le (by omega)]
        exact ⟨by unfold fewB; rw [e1]; exact hc.out.2.1, by unfold fewT; rw [e1]⟩
      have HF := Lib.hid hfin
      clear hfin
      go_wp2_with fail
      go_ret2
      refine ⟨_, by rw [HF.out.1]; rfl, hc.out.1, fun _ => ?_⟩
      rw [HF.out.2]
      exact hc.out.2.2
end Go.Proofs.YtbchkhjkajagfaaDoor
