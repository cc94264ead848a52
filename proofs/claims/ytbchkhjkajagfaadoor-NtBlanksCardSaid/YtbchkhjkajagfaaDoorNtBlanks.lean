/- The law NtBlanks: its walk. Every row of triples, every row of bytes. -/
import Derived.Test.YtbchkhjkajagfaaDoorNtT3
import Derived.Test.YtbchkhjkajagfaaDoorNtAwake
import Derived.Test.YtbchkhjkajagfaaDoorNtRPrint
namespace Go.Proofs.YtbchkhjkajagfaaDoor
open Go Go.RowKit
set_option linter.unusedVariables false
set_option linter.unusedSimpArgs false
set_option maxRecDepth 100000
/-- a row of bytes -/
def GapsAt (w : World) (a : Option Addr) (gs : List Int) : Prop := (∀ n ∈ gs, 0 ≤ n ∧ n ≤ 255) ∧ (gs = [] ∨ ∃ b off, a = some ⟨b, off, none⟩ ∧ b < w.heap.size ∧ ∀ j (h : j < gs.length), w.cell? ⟨b, off + j, none⟩ = some (.int .u8 (gs[j]'h)))
theorem GapsAt.below {w w' : World} {a : Option Addr} {gs : List Int} (h : GapsAt w a gs) (hb : Below w.heap.size w w') : GapsAt w' a gs := by
  obtain ⟨h1, h2 | ⟨b, off, h2, h3, h4⟩⟩ := h
  · exact ⟨h1, .inl h2⟩
  · exact ⟨h1, .inr ⟨b, off, h2, Nat.lt_of_lt_of_le h3 hb.size, fun j hj => cell_below (h4 j hj) hb⟩⟩
theorem GapsAt.at_ {w : World} {a : Option Addr} {gs : List Int} (h : GapsAt w a gs) {j : Nat} (hj : j < gs.length) : ∃ b off, a = some ⟨b, off, none⟩ ∧ w.cell? ⟨b, off + j, none⟩ = some (.int .u8 (gs[j]'hj)) := by
  obtain ⟨h1, rfl | ⟨b, off, h2, h3, h4⟩⟩ := h
  · simp at hj
  · exact ⟨b, off, h2, h4 j hj⟩
/-- what stands ahead of the line of triple i -/
def codeOf (gs : List Int) (i : Nat) : Nat := if i < gs.length then (gs.getD i 0 % 7).toNat else 0
def gp (G : Tm → Bool) (gs : List Int) : Nat → List Tri → List (Nat × Tri)
  | _, [] => []
  | i, t :: r => (if goodTri G t then [(codeOf gs i, t)] else []) ++ gp G gs (i + 1) r
theorem gp_cons (G : Tm → Bool) (gs : List Int) (i : Nat) (t : Tri) (r : List Tri) : gp G gs i (t :: r) = (if goodTri G t then [(codeOf gs i, t)] else []) ++ gp G gs (i + 1) r := rfl
theorem gp_app (G : Tm → Bool) (gs : List Int) : ∀ (a b : List Tri) (i : Nat), gp G gs i (a ++ b) = gp G gs i a ++ gp G gs (i + a.length) b
  | [], b, i => by simp [gp]
  | t :: a, b, i => by
    rw [List.cons_append, gp_cons, gp_cons]
    rw [gp_app G gs a b (i + 1), List.append_assoc, List.length_cons, show i + 1 + a.length = i + (a.length + 1) by omega]
theorem gp_yes {G : Tm → Bool} {gs : List Int} {ts : List Tri} {k : Nat} (hk : k < ts.length) (h : goodTri G (ts[k]'hk) = true) : gp G gs 0 (ts.take (k + 1)) = gp G gs 0 (ts.take k) ++ [(codeOf gs k, ts[k]'hk)] := by
  rw [List.take_succ_eq_append_getElem hk, gp_app]
  have : 0 + (ts.take k).length = k := by rw [List.length_take]; omega
  rw [this]
  unfold gp
  rw [if_pos h]
  rfl
theorem gp_no {G : Tm → Bool} {gs : List Int} {ts : List Tri} {k : Nat} (hk : k < ts.length) (h : goodTri G (ts[k]'hk) = false) : gp G gs 0 (ts.take (k + 1)) = gp G gs 0 (ts.take k) := by
  rw [List.take_succ_eq_append_getElem hk, gp_app]
  have e : ∀ i, gp G gs i [ts[k]'hk] = [] := fun i => by unfold gp; rw [if_neg (by rw [h]; decide)]; rfl
  rw [e, List.append_nil]
theorem gp_map (G : Tm → Bool) (gs : List Int) : ∀ (ts : List Tri) (i : Nat), (gp G gs i ts).map (·.2) = goods G ts
  | [], i => rfl
  | t :: ts, i => by
    unfold gp goods
    rw [List.map_append, gp_map G gs ts (i + 1)]
    cases h : goodTri G t with
    | true => rw [if_pos rfl, List.filter_cons_of_pos h]; rfl
    | false => rw [if_neg (by decide), List.filter_cons_of_neg (by rw [h]; decide)]; rfl
theorem gp_len (G : Tm → Bool) (gs : List Int) (ts : List Tri) (i : Nat) : (gp G gs i ts).length ≤ ts.length := by
  have h1 := congrArg List.length (gp_map G gs ts i)
  rw [List.length_map] at h1
  rw [h1]
  exact goods_len G ts
theorem gp_mem {G : Tm → Bool} {gs : List Int} {ts : List Tri} {i : Nat} {x : Nat × Tri} (h : x ∈ gp G gs i ts) : x.2 ∈ goods G ts := by
  rw [← gp_map G gs ts i]
  exact List.mem_map_of_mem h
/-- the bytes of what stands ahead of a line -/
def gapB : Nat → ByteArray
  | 1 => ⟨#[10]⟩
  | 2 => ⟨#[32, 9]⟩
  | 3 => ⟨#[35, 32, 60, 117, 58, 97, 62, 10]⟩
  | 4 => ⟨#[32, 13, 10]⟩
  | 5 => ⟨#[10, 10, 32, 32, 35, 10, 9]⟩
  | 6 => ⟨#[35, 13, 10]⟩
  | _ => ⟨#[]⟩
def endB : Nat → ByteArray
  | 1 => ⟨#[32, 35, 32, 101, 110, 100]⟩
  | 2 => ⟨#[9]⟩
  | _ => ⟨#[]⟩
theorem gapB_eq {c : Nat} (h : c < 7) : gapB c = tBytes (gapS c) ∧ (gapB c).size ≤ 8 ∧ (gapS c).length ≤ 8 ∧ Signs (gapS c) := by
  have hs : ∀ l : List Int, (l.all fun n => decide (0 ≤ n) && decide (n < 128)) = true → Signs l := fun l hl n hn => by
    have := List.all_eq_true.1 hl n hn
    simp only [Bool.and_eq_true, decide_eq_true_eq] at this
    exact .inl (by omega)
  rcases (by omega : c = 0 ∨ c = 1 ∨ c = 2 ∨ c = 3 ∨ c = 4 ∨ c = 5 ∨ c = 6) with rfl | rfl | rfl | rfl | rfl | rfl | rfl
  all_goals exact ⟨ba_eq (by decide +kernel), by decide, by decide, hs _ (by decide)⟩
theorem endB_eq {c : Nat} (h : c < 3) : endB c = tBytes (endS c) ∧ (endB c).size ≤ 8 ∧ (endS c).length ≤ 8 ∧ Signs (endS c) := by
  have hs : ∀ l : List Int, (l.all fun n => decide (0 ≤ n) && decide (n < 128)) = true → Signs l := fun l hl n hn => by
    have := List.all_eq_true.1 hl n hn
    simp only [Bool.and_eq_true, decide_eq_true_eq] at this
    exact .inl (by omega)
  rcases (by omega : c = 0 ∨ c = 1 ∨ c = 2) with rfl | rfl | rfl
  all_goals exact ⟨ba_eq (by decide +kernel), by decide, by decide, hs _ (by decide)⟩
theorem gap_index {c : Nat} (h : c < 7) (w : World) : (Instr.index 49 (.agg #[.string ⟨#[]⟩, .string ⟨#[10]⟩, .string ⟨#[32, 9]⟩, .string ⟨#[35, 32, 60, 117, 58, 97, 62, 10]⟩, .string ⟨#[32, 13, 10]⟩, .string ⟨#[10, 10, 32, 32, 35, 10, 9]⟩, .string ⟨#[35, 13, 10]⟩]) (.int .u8 c)).run Tryd.prog w = .ok (.string (gapB c)) w := by
  rcases (by omega : c = 0 ∨ c = 1 ∨ c = 2 ∨ c = 3 ∨ c = 4 ∨ c = 5 ∨ c = 6) with rfl | rfl | rfl | rfl | rfl | rfl | rfl
  all_goals kernel_rfl
theorem end_index {c : Nat} (h : c < 3) (w : World) : (Instr.index 54 (.agg #[.string ⟨#[]⟩, .string ⟨#[32, 35, 32, 101, 110, 100]⟩, .string ⟨#[9]⟩]) (.int .i64 c)).run Tryd.prog w = .ok (.string (endB c)) w := by
  rcases (by omega : c = 0 ∨ c = 1 ∨ c = 2) with rfl | rfl | rfl
  all_goals kernel_rfl
theorem gapl_all {G : Tm → Bool} : ∀ (xs : List (Nat × Tri)), (∀ x ∈ xs, x.1 < 7 ∧ GoodTri G x.2 ∧ ShortTri x.2) → (xs.flatMap gapLine).length ≤ 2825 * xs.length ∧ Signs (xs.flatMap gapLine)
  | [], _ => ⟨by simp, Signs.nil⟩
  | x :: xs, h => by
    have h1 := gapl_all xs (fun y hy => h y (List.mem_cons_of_mem _ hy))
    have h2 := h x List.mem_cons_self
    have h3 := line_all h2.2.1 h2.2.2
    have h4 := gapB_eq h2.1
    rw [List.flatMap_cons, List.length_append, List.length_cons]
    unfold gapLine at h1 ⊢
    rw [List.length_append]
    exact ⟨by have := h1.1; have := h3.1; have := h4.2.2.1; omega, Signs.app (Signs.app h4.2.2.2 h3.2) h1.2⟩
theorem code_lt (gs : List Int) (i : Nat) : codeOf gs i < 7 := by
  unfold codeOf
  split
  · have := Int.emod_nonneg (gs.getD i 0) (show (7 : Int) ≠ 0 by omega)
    have := Int.emod_lt_of_pos (gs.getD i 0) (show (0 : Int) < 7 by omega)
    omega
  · omega
theorem gp_code {G : Tm → Bool} {gs : List Int} : ∀ (ts : List Tri) (i : Nat) (x : Nat × Tri), x ∈ gp G gs i ts → x.1 < 7
  | [], i, x, h => by cases h
  | t :: ts, i, x, h => by
    unfold gp at h
    rcases List.mem_append.1 h with h | h
    · split at h
      · rw [List.mem_singleton.1 h]; exact code_lt gs i
      · cases h
    · exact gp_code ts (i + 1) x h
theorem cell_grown {w w' : World} {row : Option Nat} {b o : Nat} {v : Value} (h : w.cell? ⟨b, o, none⟩ = some v) (hg : w.grownBy w' row) (hne : some b ≠ row) : w'.cell? ⟨b, o, none⟩ = some v := (cell_same (hg.block b (block_lt_of_cell h) hne)).trans h
theorem alloc_belowB (w : World) (o : Obj) : Below w.heap.size w (w.alloc o) := (Below.refl _ _).alloc (Nat.le_refl _) o
set_option maxHeartbeats 25600000 in
theorem ntblanks_walk (a1 a2 : Option Addr) (rs : List Raw3) (gs : List Int) (cap1 cap2 : Nat) (w : World) (he : Esc w) (hm : MaxV w) (h1 : Raw3sAt w a1 rs) (hl1 : rs.length ≤ 9223372036854775807) (h2 : GapsAt w a2 gs) (hl2 : gs.length ≤ 9223372036854775807) :
    Calls Tryd.prog 4 #[.slice a1 rs.length cap1, .slice a2 gs.length cap2] w fun e w' => e = .returned (.bool true) ∧ Below w.heap.size w w' := by
  obtain ⟨G, hG⟩ := good_fn
  have HA := Lib.hid (fun w' (hb : Below w.heap.size w w') => nawake_any hG w' (he.below he.lt hb) (hm.below hb))
  have HEs := Lib.hid he
  have HMs := Lib.hid hm
  have HGF := Lib.hid hG
  have HF1 := Lib.hid (fun w' (hb : Below w.heap.size w w') => few_any a1 rs cap1 w' (h1.below hb) hl1)
  have HGS := Lib.hid (fun w' (hb : Below w.heap.size w w') j (hj : j < gs.length) => (h2.below hb).at_ hj)
  have HGN := Lib.hid (fun j (hj : j < gs.length) => h2.1 _ (List.getElem_mem hj))
  clear he hm hG h1 h2
  by_cases a20 : (20 : Int) < gs.length
  · have q1 : decide ((20 : Int) < (gs.length : Int)) = true := decide_eq_true a20
    clear a20
    go_enter Tryd.func4, Tryd.ntmps4
    go_wp2_with fail
    refine (HA.out _ (Below.refl _ _)).mono ?_
    rintro e w1 ⟨rfl, hb1⟩
    go_wp2_with fail
    refine (HA.out _ hb1).mono ?_
    rintro e w2 ⟨rfl, hb2⟩
    go_wp2_with fail
    go_ret
    exact ⟨rfl, hb1.trans (hb2.mono hb1.size)⟩
  have q1 : decide ((20 : Int) < (gs.length : Int)) = false := decide_eq_false a20
  clear a20
  cases hf1 : fewB rs with
  | false =>
    rw [hf1] at HF1
    go_enter Tryd.func4, Tryd.ntmps4
    go_wp2_with fail
    refine (HA.out _ (Below.refl _ _)).mono ?_
    rintro e w1 ⟨rfl, hb1⟩
    have HB1 := Lib.hid hb1
    clear hb1
    go_wp2_with fail
    refine (HF1.out _ HB1.out).mono ?_
    rintro e w0 ⟨V5, rfl, hb3, hr5⟩
    have HB3 := Lib.hid (HB1.out.trans (hb3.mono HB1.out.size))
    clear hb3 hr5 hf1
    go_wp2_with fail
    go_ret
    exact ⟨rfl, HB3.out⟩
  | true =>
  have HKEY1 := Lib.hid (fun k (hk : k < (fewT rs).length) => fewT_key rs _ (List.getElem_mem hk))
  have HSM1 := Lib.hid (fun k (hk : k < (fewT rs).length) => fewT_small hf1 _ (List.getElem_mem hk))
  have HSH1 := Lib.hid (fun k (hk : k < (fewT rs).length) => few_short hf1 _ (List.getElem_mem hk))
  have HG1 : Hid (∀ t ∈ goods G (fewT rs), GoodTri G t ∧ SmallTri t ∧ ShortTri t ∧ KeyTri t) := Lib.hid (fun t ht => ⟨good_of HGF.out (fewT_small hf1 _ (goods_mem ht).1) (goods_mem ht).2, fewT_small hf1 _ (goods_mem ht).1, few_short hf1 _ (goods_mem ht).1, fewT_key rs _ (goods_mem ht).1⟩)
  have HLEN1 := Lib.hid (fewT_len rs)
  rw [hf1] at HF1
  obtain ⟨ts, hts⟩ : ∃ ts, ts = fewT rs := ⟨_, rfl⟩
  rw [← hts] at HKEY1 HSM1 HSH1 HG1 HLEN1 HF1
  clear hts hf1
  have HGALL : Hid (∀ k, ∀ x ∈ gp G gs 0 (ts.take k), x.1 < 7 ∧ GoodTri G x.2 ∧ ShortTri x.2) := Lib.hid (fun k x hx => by
    have h2 := goods_mem (gp_mem hx)
    have h3 : x.2 ∈ goods G ts := List.mem_filter.2 ⟨List.mem_of_mem_take h2.1, h2.2⟩
    exact ⟨gp_code _ _ _ hx, (HG1.out _ h3).1, (HG1.out _ h3).2.2.1⟩)
  go_enter Tryd.func4, Tryd.ntmps4
  go_wp2_with fail
  refine (HA.out _ (Below.refl _ _)).mono ?_
  rintro e w1 ⟨rfl, hb1⟩
  have HB1 := Lib.hid hb1
  clear hb1
  go_wp2_with fail
  refine (HF1.out _ HB1.out).mono ?_
  rintro e w0 ⟨V5, rfl, hb3, hr5⟩
  have HR5 := Lib.hid (hr5 (by trivial))
  have HB3 := Lib.hid (HB1.out.trans (hb3.mono HB1.out.size))
  obtain ⟨a5, c5, rfl⟩ := HR5.out.form
  have hn1 : ts.length ≤ 9223372036854775807 := by have := HLEN1.out; omega
  clear hb3 hr5 HF1 HA
  go_wp2_with fail
  go_loopw [7, 8, 31] (fun V S i wr => ∃ k : Nat, k ≤ ts.length ∧ i = .int .i64 k ∧ S = .string (tBytes ((gp G gs 0 (ts.take k)).flatMap gapLine)) ∧ Hid (T3 w0 V (goods G (ts.take k)) (.slice none 0 0) [] (.slice none 0 0) [] wr)) (fun _ _ i _ => ts.length - (intOf i).toNat)
  case atStart => exact ⟨0, by omega, rfl, rfl, Lib.hid (T3.start w0)⟩
  case round =>
    obtain ⟨k, hk, rfl, rfl, HT⟩ := hrel
    obtain ⟨wo, hwo⟩ : ∃ wo : World, wo = wr := ⟨_, rfl⟩
    subst hwo
    by_cases hlt : k < ts.length
    · obtain ⟨gb, gc, hv, hgb, r0, r1, r2, r3, r4, r5, r6, r7, r8, r9, r10, r11⟩ := rtri_at (HR5.out.below HT.out.1) k hlt
      obtain rfl : a5 = some ⟨gb, 0, none⟩ := by injection hv
      have HGD := Lib.hid (fun w => rgood3_any HGF.out (ts[k]'hlt) (HSM1.out k hlt) w)
      have HYES := Lib.hid (fun h => goods_yes (G := G) (ts := ts) (k := k) hlt h)
      have HNO := Lib.hid (fun h => goods_no (G := G) (ts := ts) (k := k) hlt h)
      have HPY := Lib.hid (fun h => gp_yes (G := G) (gs := gs) (ts := ts) (k := k) hlt h)
      have HPN := Lib.hid (fun h => gp_no (G := G) (gs := gs) (ts := ts) (k := k) hlt h)
      have HGG := Lib.hid (fun h => (⟨good_of HGF.out (HSM1.out k hlt) h, HSM1.out k hlt⟩ : GoodTri G (ts[k]'hlt) ∧ SmallTri (ts[k]'hlt)))
      have HLN := Lib.hid (fun h => line_all (good_of HGF.out (HSM1.out k hlt) h) (HSH1.out k hlt))
      have HGL := Lib.hid (goods_len G (ts.take k))
      have htl : (ts.take k).length ≤ 10 := by rw [List.length_take]; have := HLEN1.out; omega
      obtain ⟨t, ht⟩ : ∃ t, t = ts[k]'hlt := ⟨_, rfl⟩
      rw [← ht] at r0 r1 r2 r3 r4 r5 r6 r7 r8 r9 r10 r11 HGD HYES HNO HPY HPN HGG HLN
      obtain ⟨gx, hgx⟩ : ∃ gx, gx = goodTri G t := ⟨_, rfl⟩
      rw [← hgx] at HGD HYES HNO HPY HPN HGG HLN
      unfold rtriV at HGD
      obtain ⟨k1, hk1⟩ : ∃ x, x = kindV t.s := ⟨_, rfl⟩
      obtain ⟨x1, hx1⟩ : ∃ x, x = text0 t.s := ⟨_, rfl⟩
      obtain ⟨y1, hy1⟩ : ∃ x, x = text1 t.s := ⟨_, rfl⟩
      obtain ⟨z1, hz1⟩ : ∃ x, x = text2 t.s := ⟨_, rfl⟩
      obtain ⟨k2, hk2⟩ : ∃ x, x = kindV t.p := ⟨_, rfl⟩
      obtain ⟨x2, hx2⟩ : ∃ x, x = text0 t.p := ⟨_, rfl⟩
      obtain ⟨y2, hy2⟩ : ∃ x, x = text1 t.p := ⟨_, rfl⟩
      obtain ⟨z2, hz2⟩ : ∃ x, x = text2 t.p := ⟨_, rfl⟩
      obtain ⟨k3, hk3⟩ : ∃ x, x = kindV t.o := ⟨_, rfl⟩
      obtain ⟨x3, hx3⟩ : ∃ x, x = text0 t.o := ⟨_, rfl⟩
      obtain ⟨y3, hy3⟩ : ∃ x, x = text1 t.o := ⟨_, rfl⟩
      obtain ⟨z3, hz3⟩ : ∃ x, x = text2 t.o := ⟨_, rfl⟩
      have HRC : Hid (rtriC t = [.int .i64 k1, .string x1, .string y1, .string z1, .int .i64 k2, .string x2, .string y2, .string z2, .int .i64 k3, .string x3, .string y3, .string z3]) := Lib.hid (by rw [hk1, hx1, hy1, hz1, hk2, hx2, hy2, hz2, hk3, hx3, hy3, hz3]; rfl)
      rw [← hk1, ← hx1, ← hy1, ← hz1, ← hk2, ← hx2, ← hy2, ← hz2, ← hk3, ← hx3, ← hy3, ← hz3] at HGD
      rw [← hk1] at r0
      rw [← hx1] at r1
      rw [← hy1] at r2
      rw [← hz1] at r3
      rw [← hk2] at r4
      rw [← hx2] at r5
      rw [← hy2] at r6
      rw [← hz2] at r7
      rw [← hk3] at r8
      rw [← hx3] at r9
      rw [← hy3] at r10
      rw [← hz3] at r11
      clear hk1 hx1 hy1 hz1 hk2 hx2 hy2 hz2 hk3 hx3 hy3 hz3
      have b1 : (0 : Int) ≤ (k : Int) := by omega
      have b2 : (k : Int) < (ts.length : Int) := by omega
      obtain ⟨W1, hW1⟩ : ∃ W1, W1 = wo.alloc (.cells #[.int .i64 k1, .string x1, .string y1, .string z1, .int .i64 k2, .string x2, .string y2, .string z2, .int .i64 k3, .string x3, .string y3, .string z3] 47) := ⟨_, rfl⟩
      have HX1 : Hid (W1.heap[wo.heap.size]? = some (.cells #[.int .i64 k1, .string x1, .string y1, .string z1, .int .i64 k2, .string x2, .string y2, .string z2, .int .i64 k3, .string x3, .string y3, .string z3] 47 (0, 0))) := Lib.hid (by rw [hW1]; exact blk_new wo _ _)
      have HT1 := Lib.hid (show _ from HT.out.below (show Below wo.heap.size wo W1 from by rw [hW1]; exact alloc_belowB wo _))
      have HOWN := Lib.hid (fun q e => (HT.out.2.1.own_lt q e).2)
      have HW1 := Lib.hid hW1
      obtain ⟨d0, d1, d2, d3, d4, d5, d6, d7, d8, d9, d10, d11⟩ := cells12 HX1.out
      clear hv hgb hW1 ht
      cases gx with
      | false =>
        obtain ⟨Z, hZ⟩ : ∃ Z, Z = tBytes ((gp G gs 0 (ts.take k)).flatMap gapLine) := ⟨_, rfl⟩
        have HZ : Hid (tBytes ((gp G gs 0 (ts.take (k + 1))).flatMap gapLine) = Z) := Lib.hid (by rw [HPN.out (by trivial), hZ])
        rw [← hZ]
        clear hgx hZ
        go_wp2_with fail
        rw [← HW1.out]
        refine (HGD.out _).mono ?_
        rintro e w2 ⟨rfl, hb2⟩
        have HT2 := Lib.hid (HT1.out.below hb2)
        clear hb2
        go_wp2_with fail
        go_round
        case measure => simp only [intOf]; omega
        case rel => exact ⟨k + 1, by omega, by push_cast; rfl, by rw [HZ.out], by rw [HNO.out (by trivial)]; exact HT2⟩
      | true =>
        have HGT := Lib.hid (HGG.out (by trivial))
        have hln := HLN.out (by trivial)
        have hga := gapl_all (G := G) _ (HGALL.out k)
        have hgn := gp_len G gs (ts.take k) 0
        have s0 := tB_size ((gp G gs 0 (ts.take k)).flatMap gapLine)
        have s9 := tB_size (lineS t)
        have hlen1 : ((gp G gs 0 (ts.take k)).flatMap gapLine).length ≤ 28250 := by omega
        have hE : tBytes ((gp G gs 0 (ts.take (k + 1))).flatMap gapLine) = (tBytes ((gp G gs 0 (ts.take k)).flatMap gapLine) ++ tBytes (gapS (codeOf gs k))) ++ tBytes (lineS t) := by
          rw [HPY.out (by trivial), List.flatMap_append, List.flatMap_singleton]
          unfold gapLine
          rw [tB_app, tB_app, List.append_assoc]
        have HE := Lib.hid hE
        have hcl := code_lt gs k
        have hgq := gapB_eq hcl
        obtain ⟨P, hP⟩ : ∃ P, P = tBytes ((gp G gs 0 (ts.take k)).flatMap gapLine) := ⟨_, rfl⟩
        obtain ⟨LB, hLB⟩ : ∃ LB, LB = tBytes (lineS t) := ⟨_, rfl⟩
        rw [← hP, ← hLB, ← hgq.1] at HE
        rw [← hP] at s0 ⊢
        rw [← hLB] at s9
        have hs0 : P.size ≤ 200000 := by omega
        have hs9 : LB.size ≤ 200000 := by have := hln.1; omega
        have HLB := Lib.hid hLB
        by_cases hkg : k < gs.length
        · obtain ⟨b3, o3, hb3, z0⟩ := HGS.out _ (HB3.out.trans (HT.out.1.mono HB3.out.size)) k hkg
          obtain rfl := hb3
          have hz := HGN.out k hkg
          obtain ⟨z, hzz⟩ : ∃ z, z = gs[k]'hkg := ⟨_, rfl⟩
          obtain ⟨c, hc⟩ : ∃ c, c = codeOf gs k := ⟨_, rfl⟩
          have hmod : z % 7 = (c : Int) := by
            rw [hc, hzz]
            unfold codeOf
            rw [if_pos hkg, List.getD_eq_getElem?_getD, List.getElem?_eq_getElem hkg]
            have := Int.emod_nonneg (gs[k]'hkg) (show (7 : Int) ≠ 0 by omega)
            show _ = (((gs[k]'hkg) % 7).toNat : Int)
            omega
          rw [← hc] at HE hcl hgq
          rw [← hzz] at z0 hz
          obtain ⟨zl, zh⟩ := hz
          have hix := gap_index hcl
          have hgs := hgq.2.1
          have g1 : ∀ w : World, (Op.stringOp .add P (gapB c)).run Tryd.prog w = .ok (.string (P ++ gapB c)) w := add_str _ _ (by omega)
          have e1 : (P ++ gapB c : ByteArray).size = P.size + (gapB c).size := ByteArray.size_append
          have g2 : ∀ w : World, (Op.stringOp .add (P ++ gapB c) LB).run Tryd.prog w = .ok (.string ((P ++ gapB c) ++ LB)) w := add_str _ _ (by omega)
          obtain ⟨Z, hZ⟩ : ∃ Z, Z = (P ++ gapB c) ++ LB := ⟨_, rfl⟩
          have HZ : Hid (tBytes ((gp G gs 0 (ts.take (k + 1))).flatMap gapLine) = Z) := Lib.hid (by rw [HE.out, hZ])
          rw [← hZ] at g2
          generalize (P ++ gapB c : ByteArray) = P1 at *
          generalize gapB c = GB at *
          have HOG : Hid (b3 < w.heap.size) := Lib.hid (by
            obtain ⟨b4, o4, h4, h5⟩ := HGS.out w (Below.refl _ _) k hkg
            injection h4 with h4
            injection h4 with h4 _ _
            subst h4
            exact block_lt_of_cell h5)
          have i1 : (k : Int) < (gs.length : Int) := by omega
          clear hgx hE hP hLB hln hga hgn s0 s9 hlen1 hgq hc hzz hkg e1 hZ HPY HPN HLN
          go_wp2_with fail
          rw [← HW1.out]
          refine (HGD.out _).mono ?_
          rintro e w2 ⟨rfl, hb2⟩
          have HT2 := Lib.hid (HT1.out.below hb2)
          have HX2 := Lib.hid (boxb HX1.out hb2)
          have hzz2 := cell_below (cell_below z0 (show Below wo.heap.size wo W1 from by rw [HW1.out]; exact alloc_belowB wo _)) hb2
          obtain ⟨va, vc, hva⟩ := HT2.out.2.1.form
          subst hva
          clear hb2 d0 d1 d2 d3 d4 d5 d6 d7 d8 d9 d10 d11 z0
          obtain ⟨d0, d1, d2, d3, d4, d5, d6, d7, d8, d9, d10, d11⟩ := cells12 HX2.out
          have hlt3 : b3 < w0.heap.size := Nat.lt_of_lt_of_le HOG.out HB3.out.size
          go_wp2_with (at_builtin; go_loud (refine wpList_append_rows eltRTri _ rfl (.tmp 39) (.tmp 41) rfl w0.heap.size w2.heap.size _ _ _ [t] rfl rfl (HT2.out.below (alloc_belowB w2 (.cells #[.int .i64 k1, .string x1, .string y1, .string z1, .int .i64 k2, .string x2, .string y2, .string z2, .int .i64 k3, .string x3, .string y3, .string z3] 47))).2.1 (show RTriRow (w2.alloc (.cells #[.int .i64 k1, .string x1, .string y1, .string z1, .int .i64 k2, .string x2, .string y2, .string z2, .int .i64 k3, .string x3, .string y3, .string z3] 47)) w2.heap.size (.slice (some ⟨w2.heap.size, 0, none⟩) 1 1) [t] from by have := RowOf.new (T := 47) rtriC_len w2 [t] (by simp); rw [show [t].flatMap rtriC = [.int .i64 k1, .string x1, .string y1, .string z1, .int .i64 k2, .string x2, .string y2, .string z2, .int .i64 k3, .string x3, .string y3, .string z3] from by rw [List.flatMap_singleton, HRC.out]] at this; exact this) (by simp; have := HGL.out; omega) (by have := HT2.out.1.size; simp; omega) ?_; intro V4 w4 r4 q4 at4; clear d0 d1 d2 d3 d4 d5 d6 d7 d8 d9 d10 d11; have HX4 := Lib.hid ((q4.block _ (Nat.lt_of_lt_of_le (lt_heap HX2.out) (alloc_belowB w2 _).size) (fun e => absurd (HOWN.out _ e.symm) (Nat.lt_irrefl _))).trans (boxb HX2.out (alloc_belowB w2 (.cells #[.int .i64 k1, .string x1, .string y1, .string z1, .int .i64 k2, .string x2, .string y2, .string z2, .int .i64 k3, .string x3, .string y3, .string z3] 47)))); have hz4 := cell_grown (cell_below hzz2 (alloc_belowB w2 (.cells #[.int .i64 k1, .string x1, .string y1, .string z1, .int .i64 k2, .string x2, .string y2, .string z2, .int .i64 k3, .string x3, .string y3, .string z3] 47))) q4 (fun e => absurd (HT2.out.2.1.own_lt _ e.symm).1 (Nat.not_le_of_lt hlt3)); clear hzz2; obtain ⟨d0, d1, d2, d3, d4, d5, d6, d7, d8, d9, d10, d11⟩ := cells12 HX4.out))
          have HT4 := Lib.hid ((HT2.out.below (alloc_belowB w2 (.cells #[.int .i64 k1, .string x1, .string y1, .string z1, .int .i64 k2, .string x2, .string y2, .string z2, .int .i64 k3, .string x3, .string y3, .string z3] 47))).growV r4 q4 at4)
          clear r4 q4 at4
          have HT5 := Lib.hid (HT4.out.below (alloc_belowB _ (.cells #[.int .i64 k1, .string x1, .string y1, .string z1, .int .i64 k2, .string x2, .string y2, .string z2, .int .i64 k3, .string x3, .string y3, .string z3] 47)))
          have x6 : RTriRow (w4.alloc (.cells #[.int .i64 k1, .string x1, .string y1, .string z1, .int .i64 k2, .string x2, .string y2, .string z2, .int .i64 k3, .string x3, .string y3, .string z3] 47)) w4.heap.size (.slice (some ⟨w4.heap.size, 0, none⟩) 1 1) [t] := by have := RowOf.new (T := 47) rtriC_len w4 [t] (by simp); rw [show [t].flatMap rtriC = [.int .i64 k1, .string x1, .string y1, .string z1, .int .i64 k2, .string x2, .string y2, .string z2, .int .i64 k3, .string x3, .string y3, .string z3] from by rw [List.flatMap_singleton, HRC.out]] at this; exact this
          have HPR := Lib.hid (rprint_any HGF.out (w4.alloc (.cells #[.int .i64 k1, .string x1, .string y1, .string z1, .int .i64 k2, .string x2, .string y2, .string z2, .int .i64 k3, .string x3, .string y3, .string z3] 47)) x6 (fun u hu => by rw [List.mem_singleton.1 hu]; exact HGT.out) (by simp))
          rw [show linesS [t] = lineS t from by unfold linesS; rw [List.flatMap_singleton], ← HLB.out] at HPR
          clear x6
          refine HPR.out.mono ?_
          rintro e w6 ⟨rfl, hb6⟩
          have HT6 := Lib.hid (HT5.out.below hb6)
          clear hb6
          go_wp2_with fail
          go_round
          case measure => simp only [intOf]; omega
          case rel => exact ⟨k + 1, by omega, by push_cast; rfl, by rw [HZ.out], by rw [HYES.out (by trivial)]; exact HT6⟩
        · obtain ⟨c, hc⟩ : ∃ c, c = codeOf gs k := ⟨_, rfl⟩
          have hc0 : c = 0 := by rw [hc]; unfold codeOf; rw [if_neg hkg]
          rw [← hc, hc0] at HE
          have g2 : ∀ w : World, (Op.stringOp .add P LB).run Tryd.prog w = .ok (.string (P ++ LB)) w := add_str _ _ (by omega)
          obtain ⟨Z, hZ⟩ : ∃ Z, Z = P ++ LB := ⟨_, rfl⟩
          have HZ : Hid (tBytes ((gp G gs 0 (ts.take (k + 1))).flatMap gapLine) = Z) := Lib.hid (by
            rw [HE.out, hZ]
            refine ba_eq ?_
            rw [join_data, join_data, join_data]
            simp [gapB])
          rw [← hZ] at g2
          have i1 : decide ((k : Int) < (gs.length : Int)) = false := decide_eq_false (by omega)
          clear hgx hE hP hLB hln hga hgn s0 s9 hlen1 hgq hc hZ HPY HPN HLN hc0
          go_wp2_with fail
          rw [← HW1.out]
          refine (HGD.out _).mono ?_
          rintro e w2 ⟨rfl, hb2⟩
          have HT2 := Lib.hid (HT1.out.below hb2)
          have HX2 := Lib.hid (boxb HX1.out hb2)
          obtain ⟨va, vc, hva⟩ := HT2.out.2.1.form
          subst hva
          clear hb2 d0 d1 d2 d3 d4 d5 d6 d7 d8 d9 d10 d11
          obtain ⟨d0, d1, d2, d3, d4, d5, d6, d7, d8, d9, d10, d11⟩ := cells12 HX2.out
          go_wp2_with (at_builtin; go_loud (refine wpList_append_rows eltRTri _ rfl (.tmp 39) (.tmp 41) rfl w0.heap.size w2.heap.size _ _ _ [t] rfl rfl (HT2.out.below (alloc_belowB w2 (.cells #[.int .i64 k1, .string x1, .string y1, .string z1, .int .i64 k2, .string x2, .string y2, .string z2, .int .i64 k3, .string x3, .string y3, .string z3] 47))).2.1 (show RTriRow (w2.alloc (.cells #[.int .i64 k1, .string x1, .string y1, .string z1, .int .i64 k2, .string x2, .string y2, .string z2, .int .i64 k3, .string x3, .string y3, .string z3] 47)) w2.heap.size (.slice (some ⟨w2.heap.size, 0, none⟩) 1 1) [t] from by have := RowOf.new (T := 47) rtriC_len w2 [t] (by simp); rw [show [t].flatMap rtriC = [.int .i64 k1, .string x1, .string y1, .string z1, .int .i64 k2, .string x2, .string y2, .string z2, .int .i64 k3, .string x3, .string y3, .string z3] from by rw [List.flatMap_singleton, HRC.out]] at this; exact this) (by simp; have := HGL.out; omega) (by have := HT2.out.1.size; simp; omega) ?_; intro V4 w4 r4 q4 at4; clear d0 d1 d2 d3 d4 d5 d6 d7 d8 d9 d10 d11; have HX4 := Lib.hid ((q4.block _ (Nat.lt_of_lt_of_le (lt_heap HX2.out) (alloc_belowB w2 _).size) (fun e => absurd (HOWN.out _ e.symm) (Nat.lt_irrefl _))).trans (boxb HX2.out (alloc_belowB w2 (.cells #[.int .i64 k1, .string x1, .string y1, .string z1, .int .i64 k2, .string x2, .string y2, .string z2, .int .i64 k3, .string x3, .string y3, .string z3] 47)))); obtain ⟨d0, d1, d2, d3, d4, d5, d6, d7, d8, d9, d10, d11⟩ := cells12 HX4.out))
          have HT4 := Lib.hid ((HT2.out.below (alloc_belowB w2 (.cells #[.int .i64 k1, .string x1, .string y1, .string z1, .int .i64 k2, .string x2, .string y2, .string z2, .int .i64 k3, .string x3, .string y3, .string z3] 47))).growV r4 q4 at4)
          clear r4 q4 at4
          have HT5 := Lib.hid (HT4.out.below (alloc_belowB _ (.cells #[.int .i64 k1, .string x1, .string y1, .string z1, .int .i64 k2, .string x2, .string y2, .string z2, .int .i64 k3, .string x3, .string y3, .string z3] 47)))
          have x6 : RTriRow (w4.alloc (.cells #[.int .i64 k1, .string x1, .string y1, .string z1, .int .i64 k2, .string x2, .string y2, .string z2, .int .i64 k3, .string x3, .string y3, .string z3] 47)) w4.heap.size (.slice (some ⟨w4.heap.size, 0, none⟩) 1 1) [t] := by have := RowOf.new (T := 47) rtriC_len w4 [t] (by simp); rw [show [t].flatMap rtriC = [.int .i64 k1, .string x1, .string y1, .string z1, .int .i64 k2, .string x2, .string y2, .string z2, .int .i64 k3, .string x3, .string y3, .string z3] from by rw [List.flatMap_singleton, HRC.out]] at this; exact this
          have HPR := Lib.hid (rprint_any HGF.out (w4.alloc (.cells #[.int .i64 k1, .string x1, .string y1, .string z1, .int .i64 k2, .string x2, .string y2, .string z2, .int .i64 k3, .string x3, .string y3, .string z3] 47)) x6 (fun u hu => by rw [List.mem_singleton.1 hu]; exact HGT.out) (by simp))
          rw [show linesS [t] = lineS t from by unfold linesS; rw [List.flatMap_singleton], ← HLB.out] at HPR
          clear x6
          refine HPR.out.mono ?_
          rintro e w6 ⟨rfl, hb6⟩
          have HT6 := Lib.hid (HT5.out.below hb6)
          clear hb6
          go_wp2_with fail
          go_round
          case measure => simp only [intOf]; omega
          case rel => exact ⟨k + 1, by omega, by push_cast; rfl, by rw [HZ.out], by rw [HYES.out (by trivial)]; exact HT6⟩
    · have t1 : decide ((k : Int) < (ts.length : Int)) = false := decide_eq_false (by omega)
      have hga := gapl_all (G := G) (gp G gs 0 ts) (fun x hx => by have := HGALL.out ts.length x; rw [List.take_length] at this; exact this hx)
      have hgn := gp_len G gs ts 0
      have HTF := Lib.hid (show T3 w0 u7 (goods G ts) (.slice none 0 0) [] (.slice none 0 0) [] wo from by have := HT.out; rw [List.take_of_length_le (show ts.length ≤ k by omega)] at this; exact this)
      obtain ⟨L, hL⟩ : ∃ L, L = (gp G gs 0 ts).flatMap gapLine := ⟨_, rfl⟩
      have hLt : (gp G gs 0 (ts.take k)).flatMap gapLine = L := by rw [hL, List.take_of_length_le (by omega)]
      rw [hLt]
      rw [← hL] at hga
      obtain ⟨c, hc⟩ : ∃ c : Nat, (c : Int) = (gs.length : Int) % 3 := ⟨gs.length % 3, by omega⟩
      have hc3 : c < 3 := by omega
      have hmod := hc.symm
      have hix := end_index hc3
      have heq := endB_eq hc3
      have s0 := tB_size L
      have hl10 := HLEN1.out
      have hLl : L.length ≤ 28250 := by omega
      have hsg : Signs (L ++ endS c) := Signs.app hga.2 heq.2.2.2
      have hsz := tB_size (L ++ endS c)
      have hsl : (L ++ endS c).length ≤ 28258 := by rw [List.length_append]; omega
      have hpb := blanks_back (gp G gs 0 ts) c (fun x hx => by have := HGALL.out ts.length x; rw [List.take_length] at this; exact (this hx).2.1)
      rw [← hL, gp_map] at hpb
      have HPA := Lib.hid (fun wx (hx : Below w.heap.size w wx) => parse_any HGF.out (tBytes (L ++ endS c)) (L ++ endS c) [] wx (read_tB hsg) (by omega) (by omega) (HEs.out.below HEs.out.lt hx) (HMs.out.below hx))
      unfold ParseEnd parseS at HPA
      rw [if_pos rfl, hpb] at HPA
      dsimp only at HPA
      have g1 : ∀ w : World, (Op.stringOp .add (tBytes L) (endB c)).run Tryd.prog w = .ok (.string (tBytes L ++ endB c)) w := add_str _ _ (by omega)
      have hj : tBytes L ++ endB c = tBytes (L ++ endS c) := by rw [heq.1, tB_app]
      rw [hj] at g1
      have HGA : Hid (∀ t ∈ goods G ts, KeyTri t) := Lib.hid (fun t ht => (HG1.out t ht).2.2.2)
      have hall : (goods G ts).length ≤ 100000 := by have := goods_len G ts; omega
      have HB4 := Lib.hid (HB3.out.trans (HTF.out.1.mono HB3.out.size))
      generalize tBytes (L ++ endS c) = Z at *
      generalize tBytes L = Z1 at *
      generalize endB c = EB at *
      clear hga hgn hL hLt hc heq s0 hsg hsz hsl hpb hj hl10 hLl HT
      go_wp2_with fail
      refine (HPA.out _ HB4.out).mono ?_
      rintro e w6 ⟨V16, rfl, hr6, hb6⟩
      have HT6 := Lib.hid (HTF.out.below hb6)
      have HB6 := Lib.hid (HB4.out.trans (hb6.mono HB4.out.size))
      have HIS := Lib.hid (is4_any _ _ V16 u7 (goods G ts) w6 hr6 HT6.out.2.1 HGA.out hall)
      clear hr6 hb6
      go_wp2_with fail
      refine HIS.out.mono ?_
      rintro e w7 ⟨rfl, hb7⟩
      go_wp2_with fail
      go_ret
      exact ⟨rfl, HB6.out.trans (hb7.mono HB6.out.size)⟩
end Go.Proofs.YtbchkhjkajagfaaDoor
