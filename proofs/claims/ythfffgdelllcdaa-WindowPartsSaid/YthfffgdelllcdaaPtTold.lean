/- The contract of WindowParts' closure: the list of the windows that close in a while. -/
import Derived.Test.YthfffgdelllcdaaPtRep
import Derived.Test.YthfffgdelllcdaaReports
namespace Go.Proofs.Ythfffgdelllcdaa
open Go.RowKit
def ToldRes (F : Int) (n : Nat) (w : World) (e : Ending) (w' : World) : Prop := ∃ a cap, e = .returned (.slice a n cap) ∧ w'.ownsRow w.heap.size 3 1 (.slice a n cap) n (runV F n) ∧ (n = 0 → a = none ∧ cap = 0) ∧ Below w.heap.size w w'
set_option maxHeartbeats 800000 in
theorem told_any (W S B f0 t0 F : Int) (N bS : Nat) (w : World) (h : Sh W S B) (hW : W ≤ 300) (hS' : S ≤ 300) (hB1 : -300 ≤ B) (hB2 : B ≤ 300) (hf1 : -100000 ≤ f0) (hf2 : f0 ≤ 100000) (ht1 : -100000 ≤ t0) (ht2 : t0 ≤ 100000)
    (hN : N = cntV W S B f0 t0) (hN' : N ≤ 800) (hF : F = firstV W S B f0) (c0 : w.cell? ⟨bS, 0, none⟩ = some (.int .i64 W)) (c1 : w.cell? ⟨bS, 1, none⟩ = some (.int .i64 S)) (c2 : w.cell? ⟨bS, 2, none⟩ = some (.int .i64 B)) :
    Calls Try.prog 22 #[.int .i64 f0, .int .i64 t0, .pointer (some ⟨bS, 0, none⟩)] w (ToldRes F N w) := by
  have HN := Lib.hid hN
  have HF := Lib.hid hF
  have lS : bS < w.heap.size := block_lt_of_cell c0
  clear hN hF
  go_enter Try.func22, Try.ntmps22
  go_wp2_with fail
  refine (rep_make W S B f0 t0 _).mono ?_
  rintro e w1 ⟨rfl, HR, hb, hsz⟩
  have hn := heap_new w (.cells #[.slice none 0 0] 29)
  have hz : (w.alloc (.cells #[.slice none 0 0] 29)).heap.size = w.heap.size + 1 := by simp
  have HP : Hid (PY F w.heap.size (w.heap.size + 4) 0 w1) := Lib.hid ⟨none, 0, (hb.block _ (by omega)).trans hn, World.ownsRow_nil _ _ _ _, fun _ => ⟨rfl, rfl⟩⟩
  have HB1 : Hid (Below w.heap.size w w1) := Lib.hid (((Below.refl _ _).alloc (Nat.le_refl _) _).trans (hb.mono (by omega)))
  replace HR := Lib.hid HR
  have hsz1 : w.heap.size + 4 ≤ w1.heap.size := by omega
  clear hb hsz hn hz c0 c1 c2
  go_wp2_with fail
  refine (prep_any W S B f0 t0 F N w.heap.size (w.heap.size + 4) (w.heap.size + 1) _ h hW hS' hB1 hB2 hf1 hf2 ht1 ht2 HN.out hN' HF.out (by omega) (by omega) hsz1 HP.out (by simpa using HR.out)).mono ?_
  rintro e w2 ⟨rfl, ⟨a, cap, h1, h2, h3⟩, hk⟩
  have HB2 := Lib.hid (HB1.out.trans hk.1)
  have c := cell_of_one h1
  have HO := Lib.hid (ownsRow_base h2 (Nat.le_add_right w.heap.size 4))
  have H3 := Lib.hid h3
  clear h1 h2 h3 hk
  go_wp2_with fail
  go_ret
  exact ⟨a, cap, rfl, HO.out, H3.out, HB2.out⟩
end Go.Proofs.Ythfffgdelllcdaa
