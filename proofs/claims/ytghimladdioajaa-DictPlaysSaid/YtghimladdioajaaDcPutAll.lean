/- Package dict over this seat's program: Put, all its ways, by one plain function. -/
import Derived.Test.YtghimladdioajaaDcGood
namespace Go.Proofs.Ytghimladdioajaa
open Go Go.RowKit
set_option linter.unusedVariables false
set_option linter.unusedSimpArgs false
/-- what Put does: the terms behind it, the number, the error -/
def putT (G : Tm → Bool) (room : Int) (ts : List Tm) (x : Tm) : List Tm × Int × Int :=
  if G x = false then (ts, 0, 3) else match idxT x ts with | some j => (ts, (j : Int), 0) | none => if room ≤ ts.length then (ts, 0, 6) else (ts ++ [x], (ts.length : Int), 0)
theorem DK.of_below {base p m : Nat} {w w' : World} (h : Below w.heap.size w w') (hb : base ≤ w.heap.size) : DK base p m w w' := ⟨h.mono hb, fun k o hk _ _ _ => (h.block k (lt_heap hk)).trans hk⟩
theorem DK.trans {base p m : Nat} {a b c : World} (h : DK base p m a b) (h' : DK base p m b c) : DK base p m a c := ⟨h.1.trans h'.1, fun k o hk h1 h2 h3 => h'.2 k o (h.2 k o hk h1 h2 h3) h1 h2 h3⟩
theorem put_any {G : Tm → Bool} (hG : GoodFn G) {base p m : Nat} {ts : List Tm} {room : Int} {w : World} (x : Tm) (hz : Small x) (hm : MaxV w) (h : DcAt base p m ts room w) (hd : Dist ts) (hr : room ≤ 65536) (hbase : base ≤ w.heap.size) :
    Calls Try.prog 13 #[.pointer (some ⟨p, 0, none⟩), tmV x] w fun e w' => e = .returned (.tuple #[.int .i64 (putT G room ts x).2.1, .int .i64 (putT G room ts x).2.2]) ∧ DcAt base p m (putT G room ts x).1 room w' ∧ DK base p m w w' ∧ Dist (putT G room ts x).1 := by
  have hg := goodAt_of hG hz hm
  unfold putT
  cases hb : G x with
  | false =>
    rw [hb] at hg
    simp only [if_true]
    exact (put_bad x h hg).mono fun e w' hw => ⟨hw.1, h.keep hw.2, DK.of_below hw.2 hbase, hd⟩
  | true =>
    rw [hb] at hg
    have hx := (hG x hz).2.2.1 hb
    simp only [Bool.true_eq_false, if_false]
    cases hi : idxT x ts with
    | some j => exact (put_there x hx h hg j hi).mono fun e w' hw => ⟨hw.1, h.keep hw.2, DK.of_below hw.2 hbase, hd⟩
    | none =>
      by_cases hl : room ≤ ts.length
      · simp only [if_pos hl]
        exact (put_full x hx h hg hi hl).mono fun e w' hw => ⟨hw.1, h.keep hw.2, DK.of_below hw.2 hbase, hd⟩
      · simp only [if_neg hl]
        exact (put_new x hx h hg hi (by omega) (by omega) hbase).mono fun e w' hw => ⟨hw.1, hw.2.1, hw.2.2, dist_push hd hi⟩
/-- how many terms Cut leaves -/
def leftT (n : Int) (ts : List Tm) : Nat := (min (max n 0) (ts.length : Int)).toNat
theorem cut_any {base p m : Nat} {ts : List Tm} {room : Int} {w : World} (n : Int) (h : DcAt base p m ts room w) (hd : Dist ts) (hbase : base ≤ w.heap.size) :
    Calls Try.prog 17 #[.pointer (some ⟨p, 0, none⟩), .int .i64 n] w fun e w' => e = .returned (.int .i64 ((ts.length : Int) - leftT n ts)) ∧ DcAt base p m (ts.take (leftT n ts)) room w' ∧ DK base p m w w' ∧ Dist (ts.take (leftT n ts)) := by
  have hj : ((leftT n ts : Nat) : Int) = min (max n 0) (ts.length : Int) := by unfold leftT; omega
  by_cases hl : leftT n ts < ts.length
  · exact (cut_many n (leftT n ts) hj hl h hd hbase).mono fun e w' hw => ⟨hw.1, hw.2.1, hw.2.2, dist_take hd _⟩
  · have he : leftT n ts = ts.length := by omega
    rw [he, List.take_length]
    exact (cut_none n (by omega) h hd hbase).mono fun e w' hw => ⟨by rw [hw.1]; simp, hw.2.1, hw.2.2, hd⟩
end Go.Proofs.Ytghimladdioajaa
