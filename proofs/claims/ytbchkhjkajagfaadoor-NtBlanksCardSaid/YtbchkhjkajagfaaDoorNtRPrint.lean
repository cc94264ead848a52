/- Contract over this seat's program: the document's Print. -/
import Derived.Test.YtbchkhjkajagfaaDoorNtRText
namespace Go.Proofs.YtbchkhjkajagfaaDoor
open Go Go.RowKit
set_option linter.unusedVariables false
set_option linter.unusedSimpArgs false
set_option maxRecDepth 100000
theorem kept12 {w1 w2 : World} {p0 p1 p2 p3 p4 p5 p6 p7 p8 p9 p10 p11 : Addr} {v0 v1 v2 v3 v4 v5 v6 v7 v8 v9 v10 v11 : Value} (h : w1.cell? p0 = some v0 ∧ w1.cell? p1 = some v1 ∧ w1.cell? p2 = some v2 ∧ w1.cell? p3 = some v3 ∧ w1.cell? p4 = some v4 ∧ w1.cell? p5 = some v5 ∧ w1.cell? p6 = some v6 ∧ w1.cell? p7 = some v7 ∧ w1.cell? p8 = some v8 ∧ w1.cell? p9 = some v9 ∧ w1.cell? p10 = some v10 ∧ w1.cell? p11 = some v11) (hb : Below w1.heap.size w1 w2) :
    w2.cell? p0 = some v0 ∧ w2.cell? p1 = some v1 ∧ w2.cell? p2 = some v2 ∧ w2.cell? p3 = some v3 ∧ w2.cell? p4 = some v4 ∧ w2.cell? p5 = some v5 ∧ w2.cell? p6 = some v6 ∧ w2.cell? p7 = some v7 ∧ w2.cell? p8 = some v8 ∧ w2.cell? p9 = some v9 ∧ w2.cell? p10 = some v10 ∧ w2.cell? p11 = some v11 := by
  obtain ⟨h0, h1, h2, h3, h4, h5, h6, h7, h8, h9, h10, h11⟩ := h
  exact ⟨cell_below h0 hb, cell_below h1 hb, cell_below h2 hb, cell_below h3 hb, cell_below h4 hb, cell_below h5 hb, cell_below h6 hb, cell_below h7 hb, cell_below h8 hb, cell_below h9 hb, cell_below h10 hb, cell_below h11 hb⟩
theorem tx_line (P : List Int) (t : Tri) : ((((((tBytes P ++ tBytes (tmS t.s)) ++ ⟨#[32]⟩) ++ tBytes (tmS t.p)) ++ ⟨#[32]⟩) ++ tBytes (tmS t.o)) ++ ⟨#[32, 46, 10]⟩) = tBytes (P ++ lineS t) := by
  refine ba_eq ?_
  rw [join_data, join_data, join_data, join_data, join_data, join_data, tB_data, tB_data, tB_data, tB_data, tB_data]
  unfold lineS triS
  rw [textB_append, textB_append, textB_append, enc_lit (b := 32) (by decide), textB_append, enc_lit (b := 32) (by decide), textB_append, enc_lit (b := 32) (by decide), enc_lit (b := 46) (by decide), enc_lit (n := 10) (b := 10) (by decide)]
  simp
  rfl
theorem linesS_snoc {ts : List Tri} {k : Nat} (hk : k < ts.length) : linesS (ts.take (k + 1)) = linesS (ts.take k) ++ lineS (ts[k]'hk) := by
  rw [List.take_succ_eq_append_getElem hk]
  unfold linesS
  rw [List.flatMap_append, List.flatMap_singleton]
set_option maxHeartbeats 6400000 in
theorem rprint_any {G : Tm → Bool} (hG : GoodFn G) {base : Nat} {V : Value} {ts : List Tri} (w : World) (hr : RTriRow w base V ts) (ht : ∀ t ∈ ts, GoodTri G t ∧ SmallTri t) (hn : ts.length ≤ 100000) :
    Calls Tryd.prog 18 #[V] w fun e w' => e = .returned (.string (tBytes (linesS ts))) ∧ Below w.heap.size w w' := by
  obtain ⟨a, cap, rfl⟩ := hr.form
  have HR := Lib.hid hr
  have HT := Lib.hid (fun k (hk : k < ts.length) => ht _ (List.getElem_mem hk))
  have HGF := Lib.hid hG
  have HLL := Lib.hid (fun k => lines_len (ts.take k) (fun t h => ht t (List.mem_of_mem_take h)))
  have HSN := Lib.hid (fun k (hk : k < ts.length) => linesS_snoc hk)
  have hn0 : ts.length ≤ 9223372036854775807 := by omega
  clear hr ht hG
  go_enter Tryd.func18, Tryd.ntmps18
  go_wp2_with fail
  go_loopw [3, 7] (fun v3 i wr => ∃ k : Nat, k ≤ ts.length ∧ i = .int .i64 k ∧ v3 = .string (tBytes (linesS (ts.take k))) ∧ Hid (Below w.heap.size w wr)) (fun _ i _ => ts.length - (intOf i).toNat)
  case atStart => exact ⟨0, by omega, rfl, rfl, Lib.hid (Below.refl _ _)⟩
  case round =>
    obtain ⟨k, hk, rfl, rfl, HB⟩ := hrel
    obtain ⟨wo, hwo⟩ : ∃ wo : World, wo = wr := ⟨_, rfl⟩
    subst hwo
    by_cases hlt : k < ts.length
    · obtain ⟨gb, gc, hv, hgb, r0, r1, r2, r3, r4, r5, r6, r7, r8, r9, r10, r11⟩ := rtri_at (HR.out.below HB.out) k hlt
      obtain rfl : a = some ⟨gb, 0, none⟩ := by injection hv
      obtain ⟨hgt, hst⟩ := HT.out k hlt
      have HT1 := Lib.hid (fun w => rtext_good hgt.1.1 hst.1 (good_len HGF.out hst.1 hgt.1.2.1) w)
      have HT2 := Lib.hid (fun w => rtext_good hgt.2.1.1 hst.2.1 (good_len HGF.out hst.2.1 hgt.2.1.2.1) w)
      have HT3 := Lib.hid (fun w => rtext_good hgt.2.2.1 hst.2.2 (good_len HGF.out hst.2.2 hgt.2.2.2) w)
      have l1 := tmS_len hgt.1.1 hst.1
      have l2 := tmS_len hgt.2.1.1 hst.2.1
      have l3 := tmS_len hgt.2.2.1 hst.2.2
      have l0 := HLL.out k
      have l4 : (ts.take k).length ≤ ts.length := by rw [List.length_take]; omega
      have hE := tx_line (linesS (ts.take k)) (ts[k]'hlt)
      rw [← HSN.out k hlt] at hE
      obtain ⟨t, htt⟩ : ∃ t, t = ts[k]'hlt := ⟨_, rfl⟩
      rw [← htt] at r0 r1 r2 r3 r4 r5 r6 r7 r8 r9 r10 r11 HT1 HT2 HT3 l1 l2 l3 hE
      have b0 := tB_size (linesS (ts.take k))
      have b1 := tB_size (tmS t.s)
      have b2 := tB_size (tmS t.p)
      have b3 := tB_size (tmS t.o)
      unfold refT at HT1 HT2 HT3
      obtain ⟨Z, hZ⟩ : ∃ Z, Z = tBytes (linesS (ts.take (k + 1))) := ⟨_, rfl⟩
      rw [← hZ] at hE
      have HZ := Lib.hid hZ
      clear hZ
      generalize tBytes (linesS (ts.take k)) = P at *
      generalize tBytes (tmS t.s) = A at *
      generalize tBytes (tmS t.p) = B at *
      generalize tBytes (tmS t.o) = C at *
      obtain ⟨k1, hk1⟩ : ∃ x, x = kindV t.s := ⟨_, rfl⟩
      obtain ⟨x1, hx1⟩ : ∃ x, x = text0 t.s := ⟨_, rfl⟩
      obtain ⟨y1, hy1⟩ : ∃ x, x = text1 t.s := ⟨_, rfl⟩
      obtain ⟨z1, hz1⟩ : ∃ x, x = text2 t.s := ⟨_, rfl⟩
      obtain ⟨k2, hk2⟩ : ∃ x, x = kindV t.p := ⟨_, rfl⟩
      obtain ⟨x2, hx2⟩ : ∃ x, x = text0 t.p := ⟨_, rfl⟩
      obtain ⟨y2, hy2⟩ : ∃ x, x = text1 t.p := ⟨_, rfl⟩
      obtain ⟨z2, hz2⟩ : ∃ x, x = text2 t.p := ⟨_, rfl⟩
      obtain ⟨k3, hk3⟩ : ∃ x, x = kindV t.o := ⟨_, rfl⟩
      obtain ⟨x3, hx3⟩ : ∃ x, x = text0 t.o := ⟨_, rfl⟩
      obtain ⟨y3, hy3⟩ : ∃ x, x = text1 t.o := ⟨_, rfl⟩
      obtain ⟨z3, hz3⟩ : ∃ x, x = text2 t.o := ⟨_, rfl⟩
      rw [← hk1, ← hx1, ← hy1, ← hz1] at HT1
      rw [← hk2, ← hx2, ← hy2, ← hz2] at HT2
      rw [← hk3, ← hx3, ← hy3, ← hz3] at HT3
      rw [← hk1] at r0
      rw [← hx1] at r1
      rw [← hy1] at r2
      rw [← hz1] at r3
      rw [← hk2] at r4
      rw [← hx2] at r5
      rw [← hy2] at r6
      rw [← hz2] at r7
      rw [← hk3] at r8
      rw [← hx3] at r9
      rw [← hy3] at r10
      rw [← hz3] at r11
      clear hk1 hx1 hy1 hz1 hk2 hx2 hy2 hz2 hk3 hx3 hy3 hz3
      have i1 : (0 : Int) ≤ (k : Int) := by omega
      have i2 : (k : Int) < (ts.length : Int) := by omega
      have s1 : (P ++ A : ByteArray).size = P.size + A.size := by rw [ByteArray.size_append]
      have s2 : ((P ++ A) ++ ⟨#[32]⟩ : ByteArray).size = P.size + A.size + 1 := by rw [ByteArray.size_append, s1]; rfl
      have s3 : (((P ++ A) ++ ⟨#[32]⟩) ++ B : ByteArray).size = P.size + A.size + 1 + B.size := by rw [ByteArray.size_append, s2]
      have s4 : ((((P ++ A) ++ ⟨#[32]⟩) ++ B) ++ ⟨#[32]⟩ : ByteArray).size = P.size + A.size + 1 + B.size + 1 := by rw [ByteArray.size_append, s3]; rfl
      have s5 : (((((P ++ A) ++ ⟨#[32]⟩) ++ B) ++ ⟨#[32]⟩) ++ C : ByteArray).size = P.size + A.size + 1 + B.size + 1 + C.size := by rw [ByteArray.size_append, s4]
      have z1 : (⟨#[32]⟩ : ByteArray).size = 1 := rfl
      have z2 : (⟨#[32, 46, 10]⟩ : ByteArray).size = 3 := rfl
      have g1 : ∀ w : World, (Op.stringOp .add P A).run Tryd.prog w = .ok (.string (P ++ A)) w := add_str _ _ (by omega)
      have g2 : ∀ w : World, (Op.stringOp .add (P ++ A) ⟨#[32]⟩).run Tryd.prog w = .ok (.string ((P ++ A) ++ ⟨#[32]⟩)) w := add_str _ _ (by omega)
      have g3 : ∀ w : World, (Op.stringOp .add ((P ++ A) ++ ⟨#[32]⟩) B).run Tryd.prog w = .ok (.string (((P ++ A) ++ ⟨#[32]⟩) ++ B)) w := add_str _ _ (by omega)
      have g4 : ∀ w : World, (Op.stringOp .add (((P ++ A) ++ ⟨#[32]⟩) ++ B) ⟨#[32]⟩).run Tryd.prog w = .ok (.string ((((P ++ A) ++ ⟨#[32]⟩) ++ B) ++ ⟨#[32]⟩)) w := add_str _ _ (by omega)
      have g5 : ∀ w : World, (Op.stringOp .add ((((P ++ A) ++ ⟨#[32]⟩) ++ B) ++ ⟨#[32]⟩) C).run Tryd.prog w = .ok (.string (((((P ++ A) ++ ⟨#[32]⟩) ++ B) ++ ⟨#[32]⟩) ++ C)) w := add_str _ _ (by omega)
      have g6 : ∀ w : World, (Op.stringOp .add (((((P ++ A) ++ ⟨#[32]⟩) ++ B) ++ ⟨#[32]⟩) ++ C) ⟨#[32, 46, 10]⟩).run Tryd.prog w = .ok (.string ((((((P ++ A) ++ ⟨#[32]⟩) ++ B) ++ ⟨#[32]⟩) ++ C) ++ ⟨#[32, 46, 10]⟩)) w := add_str _ _ (by omega)
      rw [hE] at g6
      generalize (((((P ++ A) ++ ⟨#[32]⟩) ++ B) ++ ⟨#[32]⟩) ++ C : ByteArray) = Q5 at *
      generalize ((((P ++ A) ++ ⟨#[32]⟩) ++ B) ++ ⟨#[32]⟩ : ByteArray) = Q4 at *
      generalize (((P ++ A) ++ ⟨#[32]⟩) ++ B : ByteArray) = Q3 at *
      generalize ((P ++ A) ++ ⟨#[32]⟩ : ByteArray) = Q2 at *
      generalize (P ++ A : ByteArray) = Q1 at *
      clear hE s1 s2 s3 s4 s5 z1 z2 l0 l1 l2 l3 l4 b0 b1 b2 b3 hgt hst htt hv hgb HLL HSN HT
      go_wp2_with fail
      refine wp_region_held_drew (S := (fun w' => w'.cell? ⟨gb, k * 12, none⟩ = some (.int .i64 k1) ∧ w'.cell? ⟨gb, k * 12 + 1, none⟩ = some (.string x1) ∧ w'.cell? ⟨gb, k * 12 + 2, none⟩ = some (.string y1) ∧ w'.cell? ⟨gb, k * 12 + 3, none⟩ = some (.string z1) ∧ w'.cell? ⟨gb, k * 12 + 4, none⟩ = some (.int .i64 k2) ∧ w'.cell? ⟨gb, k * 12 + 5, none⟩ = some (.string x2) ∧ w'.cell? ⟨gb, k * 12 + 6, none⟩ = some (.string y2) ∧ w'.cell? ⟨gb, k * 12 + 7, none⟩ = some (.string z2) ∧ w'.cell? ⟨gb, k * 12 + 8, none⟩ = some (.int .i64 k3) ∧ w'.cell? ⟨gb, k * 12 + 9, none⟩ = some (.string x3) ∧ w'.cell? ⟨gb, k * 12 + 10, none⟩ = some (.string y3) ∧ w'.cell? ⟨gb, k * 12 + 11, none⟩ = some (.string z3))) (by kernel_rfl) ?hSrpr0 (fun hHeld => ?_)
      case hSrpr0 => exact ⟨r0, r1, r2, r3, r4, r5, r6, r7, r8, r9, r10, r11⟩
      refine wpAnyH_take (i := 0) (oi := ⟨some 10, _, _, _, _, _⟩) (v := ?vrpr0) rfl (by kernel_rfl) (by kernel_rfl) (by kernel_rfl) (fun _ _ _ h => h) (Or.inl ⟨by kernel_rfl, ?yrpr0⟩) (by assumption) ?rrpr0
      case yrpr0 =>
        intro w hSw
        try dsimp only at hSw
        obtain ⟨r0, r1, r2, r3, r4, r5, r6, r7, r8, r9, r10, r11⟩ := hSw
        first | (go_simp; done) | (go_simp; with_reducible rfl)
      try simp only [Act.put, List.setIfInBounds_toArray, List.set_cons_zero, List.set_cons_succ]
      refine wpAnyH_take (i := 1) (oi := ⟨some 11, _, _, _, _, _⟩) (v := ?vrpr1) rfl (by kernel_rfl) (by kernel_rfl) (by kernel_rfl) (fun _ _ _ h => h) (Or.inl ⟨by kernel_rfl, ?yrpr1⟩) (by assumption) ?rrpr1
      case yrpr1 =>
        intro w hSw
        try dsimp only at hSw
        obtain ⟨r0, r1, r2, r3, r4, r5, r6, r7, r8, r9, r10, r11⟩ := hSw
        first | (go_simp; done) | (go_simp; with_reducible rfl)
      try simp only [Act.put, List.setIfInBounds_toArray, List.set_cons_zero, List.set_cons_succ]
      refine wpAnyH_take (i := 2) (oi := ⟨some 12, _, _, _, _, _⟩) (v := ?vrpr2) rfl (by kernel_rfl) (by kernel_rfl) (by kernel_rfl) (fun _ _ _ h => h) (Or.inl ⟨by kernel_rfl, ?yrpr2⟩) (by assumption) ?rrpr2
      case yrpr2 =>
        intro w hSw
        try dsimp only at hSw
        obtain ⟨r0, r1, r2, r3, r4, r5, r6, r7, r8, r9, r10, r11⟩ := hSw
        first | (go_simp; done) | (go_simp; with_reducible rfl)
      try simp only [Act.put, List.setIfInBounds_toArray, List.set_cons_zero, List.set_cons_succ]
      refine wpAnyH_take (i := 3) (oi := ⟨some 13, _, _, _, _, _⟩) (v := ?vrpr3) rfl (by kernel_rfl) (by kernel_rfl) (by kernel_rfl) (fun _ _ _ h => h) (Or.inl ⟨by kernel_rfl, ?yrpr3⟩) (by assumption) ?rrpr3
      case yrpr3 =>
        intro w hSw
        try dsimp only at hSw
        obtain ⟨r0, r1, r2, r3, r4, r5, r6, r7, r8, r9, r10, r11⟩ := hSw
        first | (go_simp; done) | (go_simp; with_reducible rfl)
      try simp only [Act.put, List.setIfInBounds_toArray, List.set_cons_zero, List.set_cons_succ]
      refine wpAnyH_take (i := 4) (oi := ⟨some 14, _, _, _, _, _⟩) (v := ?vrpr4) rfl (by kernel_rfl) (by kernel_rfl) (by kernel_rfl) (fun _ _ _ h => h) (Or.inl ⟨by kernel_rfl, ?yrpr4⟩) (by assumption) ?rrpr4
      case yrpr4 =>
        intro w hSw
        try dsimp only at hSw
        obtain ⟨r0, r1, r2, r3, r4, r5, r6, r7, r8, r9, r10, r11⟩ := hSw
        first | (go_simp; done) | (go_simp; with_reducible rfl)
      try simp only [Act.put, List.setIfInBounds_toArray, List.set_cons_zero, List.set_cons_succ]
      refine wpAnyH_take (i := 5) (oi := ⟨some 15, _, _, _, _, _⟩) (v := ?vrpr5) rfl (by kernel_rfl) (by kernel_rfl) (by kernel_rfl) (fun _ _ _ h => h) (Or.inl ⟨by kernel_rfl, ?yrpr5⟩) (by assumption) ?rrpr5
      case yrpr5 =>
        intro w hSw
        try dsimp only at hSw
        obtain ⟨r0, r1, r2, r3, r4, r5, r6, r7, r8, r9, r10, r11⟩ := hSw
        first | (go_simp; done) | (go_simp; with_reducible rfl)
      try simp only [Act.put, List.setIfInBounds_toArray, List.set_cons_zero, List.set_cons_succ]
      refine wpAnyH_take (i := 9) (oi := ⟨some 19, _, _, _, _, _⟩) (v := ?vrpr9) rfl (by kernel_rfl) (by kernel_rfl) (by kernel_rfl) (fun _ _ _ h => h) (Or.inl ⟨by kernel_rfl, ?yrpr9⟩) (by assumption) ?rrpr9
      case yrpr9 =>
        intro w hSw
        try dsimp only at hSw
        obtain ⟨r0, r1, r2, r3, r4, r5, r6, r7, r8, r9, r10, r11⟩ := hSw
        first | (go_simp; done) | (go_simp; with_reducible rfl)
      try simp only [Act.put, List.setIfInBounds_toArray, List.set_cons_zero, List.set_cons_succ]
      refine wpAnyH_take (i := 10) (oi := ⟨some 20, _, _, _, _, _⟩) (v := ?vrpr10) rfl (by kernel_rfl) (by kernel_rfl) (by kernel_rfl) (fun _ _ _ h => h) (Or.inl ⟨by kernel_rfl, ?yrpr10⟩) (by assumption) ?rrpr10
      case yrpr10 =>
        intro w hSw
        try dsimp only at hSw
        obtain ⟨r0, r1, r2, r3, r4, r5, r6, r7, r8, r9, r10, r11⟩ := hSw
        first | (go_simp; done) | (go_simp; with_reducible rfl)
      try simp only [Act.put, List.setIfInBounds_toArray, List.set_cons_zero, List.set_cons_succ]
      refine wpAnyH_take (i := 11) (oi := ⟨some 21, _, _, _, _, _⟩) (v := ?vrpr11) rfl (by kernel_rfl) (by kernel_rfl) (by kernel_rfl) (fun _ _ _ h => h) (Or.inl ⟨by kernel_rfl, ?yrpr11⟩) (by assumption) ?rrpr11
      case yrpr11 =>
        intro w hSw
        try dsimp only at hSw
        obtain ⟨r0, r1, r2, r3, r4, r5, r6, r7, r8, r9, r10, r11⟩ := hSw
        first | (go_simp; done) | (go_simp; with_reducible rfl)
      try simp only [Act.put, List.setIfInBounds_toArray, List.set_cons_zero, List.set_cons_succ]
      refine wpAnyH_take (i := 12) (oi := ⟨some 22, _, _, _, _, _⟩) (v := ?vrpr12) rfl (by kernel_rfl) (by kernel_rfl) (by kernel_rfl) (fun _ _ _ h => h) (Or.inl ⟨by kernel_rfl, ?yrpr12⟩) (by assumption) ?rrpr12
      case yrpr12 =>
        intro w hSw
        try dsimp only at hSw
        obtain ⟨r0, r1, r2, r3, r4, r5, r6, r7, r8, r9, r10, r11⟩ := hSw
        first | (go_simp; done) | (go_simp; with_reducible rfl)
      try simp only [Act.put, List.setIfInBounds_toArray, List.set_cons_zero, List.set_cons_succ]
      refine wpAnyH_take (i := 13) (oi := ⟨some 23, _, _, _, _, _⟩) (v := ?vrpr13) rfl (by kernel_rfl) (by kernel_rfl) (by kernel_rfl) (fun _ _ _ h => h) (Or.inl ⟨by kernel_rfl, ?yrpr13⟩) (by assumption) ?rrpr13
      case yrpr13 =>
        intro w hSw
        try dsimp only at hSw
        obtain ⟨r0, r1, r2, r3, r4, r5, r6, r7, r8, r9, r10, r11⟩ := hSw
        first | (go_simp; done) | (go_simp; with_reducible rfl)
      try simp only [Act.put, List.setIfInBounds_toArray, List.set_cons_zero, List.set_cons_succ]
      refine wpAnyH_take (i := 17) (oi := ⟨some 27, _, _, _, _, _⟩) (v := ?vrpr17) rfl (by kernel_rfl) (by kernel_rfl) (by kernel_rfl) (fun _ _ _ h => h) (Or.inl ⟨by kernel_rfl, ?yrpr17⟩) (by assumption) ?rrpr17
      case yrpr17 =>
        intro w hSw
        try dsimp only at hSw
        obtain ⟨r0, r1, r2, r3, r4, r5, r6, r7, r8, r9, r10, r11⟩ := hSw
        first | (go_simp; done) | (go_simp; with_reducible rfl)
      try simp only [Act.put, List.setIfInBounds_toArray, List.set_cons_zero, List.set_cons_succ]
      refine wpAnyH_take (i := 18) (oi := ⟨some 28, _, _, _, _, _⟩) (v := ?vrpr18) rfl (by kernel_rfl) (by kernel_rfl) (by kernel_rfl) (fun _ _ _ h => h) (Or.inl ⟨by kernel_rfl, ?yrpr18⟩) (by assumption) ?rrpr18
      case yrpr18 =>
        intro w hSw
        try dsimp only at hSw
        obtain ⟨r0, r1, r2, r3, r4, r5, r6, r7, r8, r9, r10, r11⟩ := hSw
        first | (go_simp; done) | (go_simp; with_reducible rfl)
      try simp only [Act.put, List.setIfInBounds_toArray, List.set_cons_zero, List.set_cons_succ]
      refine wpAnyH_take (i := 19) (oi := ⟨some 29, _, _, _, _, _⟩) (v := ?vrpr19) rfl (by kernel_rfl) (by kernel_rfl) (by kernel_rfl) (fun _ _ _ h => h) (Or.inl ⟨by kernel_rfl, ?yrpr19⟩) (by assumption) ?rrpr19
      case yrpr19 =>
        intro w hSw
        try dsimp only at hSw
        obtain ⟨r0, r1, r2, r3, r4, r5, r6, r7, r8, r9, r10, r11⟩ := hSw
        first | (go_simp; done) | (go_simp; with_reducible rfl)
      try simp only [Act.put, List.setIfInBounds_toArray, List.set_cons_zero, List.set_cons_succ]
      refine wpAnyH_take (i := 20) (oi := ⟨some 30, _, _, _, _, _⟩) (v := ?vrpr20) rfl (by kernel_rfl) (by kernel_rfl) (by kernel_rfl) (fun _ _ _ h => h) (Or.inl ⟨by kernel_rfl, ?yrpr20⟩) (by assumption) ?rrpr20
      case yrpr20 =>
        intro w hSw
        try dsimp only at hSw
        obtain ⟨r0, r1, r2, r3, r4, r5, r6, r7, r8, r9, r10, r11⟩ := hSw
        first | (go_simp; done) | (go_simp; with_reducible rfl)
      try simp only [Act.put, List.setIfInBounds_toArray, List.set_cons_zero, List.set_cons_succ]
      refine wpAnyH_take (i := 21) (oi := ⟨some 31, _, _, _, _, _⟩) (v := ?vrpr21) rfl (by kernel_rfl) (by kernel_rfl) (by kernel_rfl) (fun _ _ _ h => h) (Or.inl ⟨by kernel_rfl, ?yrpr21⟩) (by assumption) ?rrpr21
      case yrpr21 =>
        intro w hSw
        try dsimp only at hSw
        obtain ⟨r0, r1, r2, r3, r4, r5, r6, r7, r8, r9, r10, r11⟩ := hSw
        first | (go_simp; done) | (go_simp; with_reducible rfl)
      try simp only [Act.put, List.setIfInBounds_toArray, List.set_cons_zero, List.set_cons_succ]
      refine wpAnyH_ready (rs := [6]) (by kernel_rfl) (by simp) ?_
      refine AllReadyH.cons (i := 6) (o := ⟨some 16, _, _, _, _, _⟩) rfl (fun K hK => ?_) AllReadyH.nil
      go_simp
      refine (HT1.out _).mono ?_
      rintro e w2 ⟨rfl, hb2⟩
      have HB2 := Lib.hid (HB.out.drew.trans (hb2.mono (show w.heap.size ≤ wo.drew.heap.size from HB.out.size)))
      go_wp2_with fail
      refine hK.out _ _ ?_ (fun hHeld => ?_)
      · exact kept12 (by assumption) hb2
      clear hK K
      try simp only [Act.put, List.setIfInBounds_toArray, List.set_cons_zero, List.set_cons_succ]
      refine wpAnyH_take (i := 7) (oi := ⟨some 17, _, _, _, _, _⟩) (v := ?vrpr7) rfl (by kernel_rfl) (by kernel_rfl) (by kernel_rfl) (fun _ _ _ h => h) (Or.inl ⟨by kernel_rfl, ?yrpr7⟩) (by assumption) ?rrpr7
      case yrpr7 =>
        intro w hSw
        try dsimp only at hSw
        obtain ⟨r0, r1, r2, r3, r4, r5, r6, r7, r8, r9, r10, r11⟩ := hSw
        first | (go_simp; done) | (go_simp; with_reducible rfl)
      try simp only [Act.put, List.setIfInBounds_toArray, List.set_cons_zero, List.set_cons_succ]
      refine wpAnyH_take (i := 8) (oi := ⟨some 18, _, _, _, _, _⟩) (v := ?vrpr8) rfl (by kernel_rfl) (by kernel_rfl) (by kernel_rfl) (fun _ _ _ h => h) (Or.inl ⟨by kernel_rfl, ?yrpr8⟩) (by assumption) ?rrpr8
      case yrpr8 =>
        intro w hSw
        try dsimp only at hSw
        obtain ⟨r0, r1, r2, r3, r4, r5, r6, r7, r8, r9, r10, r11⟩ := hSw
        first | (go_simp; done) | (go_simp; with_reducible rfl)
      try simp only [Act.put, List.setIfInBounds_toArray, List.set_cons_zero, List.set_cons_succ]
      refine wpAnyH_ready (rs := [14]) (by kernel_rfl) (by simp) ?_
      refine AllReadyH.cons (i := 14) (o := ⟨some 24, _, _, _, _, _⟩) rfl (fun K hK => ?_) AllReadyH.nil
      go_simp
      refine (HT2.out _).mono ?_
      rintro e w3 ⟨rfl, hb3⟩
      have HB3 := Lib.hid (HB2.out.trans (hb3.mono HB2.out.size))
      go_wp2_with fail
      refine hK.out _ _ ?_ (fun hHeld => ?_)
      · exact kept12 (by assumption) hb3
      clear hK K
      try simp only [Act.put, List.setIfInBounds_toArray, List.set_cons_zero, List.set_cons_succ]
      refine wpAnyH_take (i := 15) (oi := ⟨some 25, _, _, _, _, _⟩) (v := ?vrpr15) rfl (by kernel_rfl) (by kernel_rfl) (by kernel_rfl) (fun _ _ _ h => h) (Or.inl ⟨by kernel_rfl, ?yrpr15⟩) (by assumption) ?rrpr15
      case yrpr15 =>
        intro w hSw
        try dsimp only at hSw
        obtain ⟨r0, r1, r2, r3, r4, r5, r6, r7, r8, r9, r10, r11⟩ := hSw
        first | (go_simp; done) | (go_simp; with_reducible rfl)
      try simp only [Act.put, List.setIfInBounds_toArray, List.set_cons_zero, List.set_cons_succ]
      refine wpAnyH_take (i := 16) (oi := ⟨some 26, _, _, _, _, _⟩) (v := ?vrpr16) rfl (by kernel_rfl) (by kernel_rfl) (by kernel_rfl) (fun _ _ _ h => h) (Or.inl ⟨by kernel_rfl, ?yrpr16⟩) (by assumption) ?rrpr16
      case yrpr16 =>
        intro w hSw
        try dsimp only at hSw
        obtain ⟨r0, r1, r2, r3, r4, r5, r6, r7, r8, r9, r10, r11⟩ := hSw
        first | (go_simp; done) | (go_simp; with_reducible rfl)
      try simp only [Act.put, List.setIfInBounds_toArray, List.set_cons_zero, List.set_cons_succ]
      refine wpAnyH_ready (rs := [22]) (by kernel_rfl) (by simp) ?_
      refine AllReadyH.cons (i := 22) (o := ⟨some 32, _, _, _, _, _⟩) rfl (fun K hK => ?_) AllReadyH.nil
      go_simp
      refine (HT3.out _).mono ?_
      rintro e w4 ⟨rfl, hb4⟩
      have HB4 := Lib.hid (HB3.out.trans (hb4.mono HB3.out.size))
      go_wp2_with fail
      refine hK.out _ _ ?_ (fun hHeld => ?_)
      · exact kept12 (by assumption) hb4
      clear hK K
      try simp only [Act.put, List.setIfInBounds_toArray, List.set_cons_zero, List.set_cons_succ]
      refine wpAnyH_take (i := 23) (oi := ⟨some 33, _, _, _, _, _⟩) (v := ?vrpr23) rfl (by kernel_rfl) (by kernel_rfl) (by kernel_rfl) (fun _ _ _ h => h) (Or.inl ⟨by kernel_rfl, ?yrpr23⟩) (by assumption) ?rrpr23
      case yrpr23 =>
        intro w hSw
        try dsimp only at hSw
        obtain ⟨r0, r1, r2, r3, r4, r5, r6, r7, r8, r9, r10, r11⟩ := hSw
        first | (go_simp; done) | (go_simp; with_reducible rfl)
      try simp only [Act.put, List.setIfInBounds_toArray, List.set_cons_zero, List.set_cons_succ]
      refine wpAnyH_take (i := 24) (oi := ⟨some 34, _, _, _, _, _⟩) (v := ?vrpr24) rfl (by kernel_rfl) (by kernel_rfl) (by kernel_rfl) (fun _ _ _ h => h) (Or.inl ⟨by kernel_rfl, ?yrpr24⟩) (by assumption) ?rrpr24
      case yrpr24 =>
        intro w hSw
        try dsimp only at hSw
        obtain ⟨r0, r1, r2, r3, r4, r5, r6, r7, r8, r9, r10, r11⟩ := hSw
        first | (go_simp; done) | (go_simp; with_reducible rfl)
      try simp only [Act.put, List.setIfInBounds_toArray, List.set_cons_zero, List.set_cons_succ]
      refine wpAnyH_take (i := 25) (oi := ⟨some 3, _, _, _, _, _⟩) (v := ?vrpr25) rfl (by kernel_rfl) (by kernel_rfl) (by kernel_rfl) (fun _ _ _ h => h) (Or.inl ⟨by kernel_rfl, ?yrpr25⟩) (by assumption) ?rrpr25
      case yrpr25 =>
        intro w hSw
        try dsimp only at hSw
        obtain ⟨r0, r1, r2, r3, r4, r5, r6, r7, r8, r9, r10, r11⟩ := hSw
        first | (go_simp; done) | (go_simp; with_reducible rfl)
      try simp only [Act.put, List.setIfInBounds_toArray, List.set_cons_zero, List.set_cons_succ]
      refine wpAnyH_done (by kernel_rfl) ?_ _
      go_wp2_with fail
      go_round
      case measure => simp only [intOf]; omega
      case rel => exact ⟨k + 1, by omega, by push_cast; rfl, by rw [HZ.out], HB4⟩
    · have t1 : decide ((k : Int) < (ts.length : Int)) = false := decide_eq_false (by omega)
      obtain ⟨Z, hZ⟩ : ∃ Z, Z = tBytes (linesS ts) := ⟨_, rfl⟩
      have hP : tBytes (linesS (ts.take k)) = Z := by rw [hZ, List.take_of_length_le (by omega)]
      rw [hP]
      have HZ := Lib.hid hZ
      clear HLL HSN HT hP hZ
      go_wp2_with fail
      go_ret
      exact ⟨by rw [HZ.out]; rfl, HB.out⟩
end Go.Proofs.YtbchkhjkajagfaaDoor
