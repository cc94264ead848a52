/- The law ValueMany at every row that comes in. -/
import Derived.Test.YtfpelhacbmggeaaMany
namespace Go.Proofs.Ytfpelhacbmggeaa
open Go.RowKit
theorem many_long (a : Option Addr) (len cap : Nat) (w : World) (hl : 20 < len) :
    Calls Try.prog 7 #[.slice a len cap] w fun e w' => e = .returned (.bool true) ∧ Below w.heap.size w w' := by
  go_enter Try.func7, Try.ntmps7
  go_wp2_with fail
  refine (awake_both _).mono ?_
  rintro e w1 ⟨rfl, _, z⟩
  go_wp2_with fail
  refine (awake_both _).mono ?_
  rintro e w2 ⟨rfl, _, z2⟩
  go_wp2_with fail
  go_ret
  exact ⟨rfl, z.trans (z2.mono z.size)⟩
theorem many_walk (a : Option Addr) (len cap : Nat) (z : List Int) (w : World) (h : RowAt .i64 w a len cap z) :
    Calls Try.prog 7 #[.slice a len cap] w fun e w' => e = .returned (.bool true) ∧ Below w.heap.size w w' := by
  rcases h with ⟨rfl, rfl, rfl, rfl⟩ | ⟨x, rfl, h1, h2, h3, h4, h5⟩
  · exact many_main none 0 [] w (by simp) (fun j hj => by simp at hj) (fun j hj => by simp at hj)
  · unfold maxLen at h2
    by_cases hl : len ≤ 20
    · by_cases h0 : len = 0
      · subst h0
        exact many_main _ cap [] w (by simp) (fun j hj => by simp at hj) (fun j hj => by simp at hj)
      · obtain ⟨b, off, rfl, hc⟩ := ints_at h4 (by omega)
        have e : len = (z.take len).length := by simp; omega
        obtain ⟨zs, hzs⟩ : ∃ zs, zs = z.take len := ⟨_, rfl⟩
        rw [← hzs] at e
        have hz : ∀ j, j < zs.length → fits (zs[j]?.getD 0) = true := by
          intro j hj
          have hm : zs[j]?.getD 0 ∈ z := by
            rw [List.getElem?_eq_getElem hj]
            exact List.mem_of_mem_take (by rw [← hzs]; exact List.getElem_mem hj)
          exact (fits_iff _).2 (bounds_i64 (h5 _ hm))
        have hcz : DigA w (some ⟨b, off, none⟩) zs := by
          intro j hj
          refine ⟨b, off, rfl, ?_⟩
          rw [hc j (by omega), hzs, List.getElem?_take_of_lt (by omega)]
          simp
        rw [e]
        exact many_main _ cap zs w (by omega) hz hcz
    · exact many_long _ len cap w (by omega)
end Go.Proofs.Ytfpelhacbmggeaa
