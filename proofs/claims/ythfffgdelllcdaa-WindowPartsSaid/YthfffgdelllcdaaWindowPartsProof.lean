/- The law WindowParts: the windows that close in a while are those that close in its first part, and then in the other one. No condition. -/
import Derived.Test.YthfffgdelllcdaaRows
import Derived.Test.YthfffgdelllcdaaOpen
import Derived.WalkKit
import Derived.ProofKit
import Derived.OpenShut
import Derived.ShutString
import Derived.ChangeOld
import Derived.Below
import Derived.Test.YthfffgdelllcdaaPtLaw
namespace Go.Proofs.Ythfffgdelllcdaa.windowParts
open Go.ChangeShapes Go.WideShapes Go.ChangeAt Go.RowKit
open Go.ChangeMaps (open_string shut_string)
set_option linter.unusedVariables false
theorem own : ownKnob Try.prog.godebug = none := by kernel_rfl
theorem laidOut : laidOutB Try.prog = true := by kernel_rfl
set_option maxRecDepth 100000 in
theorem lifted (os : Os) (started : os.Started) (H : Type) (enc : TypeId × Value → H) :
    ReturnsInHanded {} Try.checked os 9 .any (Rows.windowPartsSpec.pre6 enc Try.prog Try.f9 Rows.windowPartsRow.domain false) (Rows.windowPartsSpec.post enc Try.prog Try.f9 false true false false) := by
  refine returnsInHanded_of_change (C := Try.checked) own started (by kernel_rfl) Try.func9
    (ChangeSpec.witness6 (enc := enc) (C := Try.checked) false ⟨#[], #[.agg #[.int .u8 0, .int .u8 0, .int .u8 0], .int .i16 0, .agg #[.int .u8 0, .int .u8 0]], []⟩ 8 (by kernel_rfl) (by kernel_rfl) (by kernel_rfl) (by kernel_rfl)) ?_
  intro W base args ds gs before hval0 hW hcnd _
  have hval : ∀ (j : Nat) t v, Try.f9.params[j]? = some t → args[j]? = some v → Value.okWide Try.prog W .any base t v := hval0
  have hW' := hW
  obtain ⟨p, q, hA0, hV, rfl, hfz, hnd⟩ := hW
  have hA : DataW.TrodAll enc Try.prog W 0 (fun _ => true) true Try.f9.params.toList args.toList ds p := hA0
  rw [Try.params9] at hA hval
  obtain ⟨v0, vs0, d0, ds0, p0, q0, hargs, rfl, rfl, h0, r0⟩ := trodAll_cons hA
  obtain ⟨v1, vs1, d1, ds1, p1, q1, rfl, rfl, rfl, h1, r1⟩ := trodAll_cons r0
  obtain ⟨v2, vs2, d2, ds2, p2, q2, rfl, rfl, rfl, h2, r2⟩ := trodAll_cons r1
  obtain ⟨rfl, rfl, rfl⟩ := trodAll_nil r2
  obtain rfl : args = #[v0, v1, v2] := by cases args; simp_all
  obtain ⟨rfl, rfl⟩ := trodVars_none hV
  have k0 := h0
  have lt0 : ∀ x ∈ p0, x.block < W.heap.size := by obtain ⟨m, hm⟩ := k0; exact DataW.trod_lt m _ _ _ hm
  have k1 := h1
  have lt1 : ∀ x ∈ p1, x.block < W.heap.size := by obtain ⟨m, hm⟩ := k1; exact DataW.trod_lt m _ _ _ hm
  have k2 := h2
  have lt2 : ∀ x ∈ p2, x.block < W.heap.size := by obtain ⟨m, hm⟩ := k2; exact DataW.trod_lt m _ _ _ hm
  obtain ⟨z0, e0, rfl, w0⟩ := open_arr Try.underlying47 Try.underlying5 (by kernel_rfl) (by kernel_rfl) (hval 0 47 v0 rfl rfl) h0
  obtain ⟨z0a, z0b, z0c, rfl⟩ := list_three z0 e0
  obtain ⟨a1, rfl, _, _, w1⟩ := open_int Try.underlying48 (hval 1 48 v1 rfl rfl) h1
  obtain ⟨z2, e2, rfl, w2⟩ := open_arr Try.underlying49 Try.underlying5 (by kernel_rfl) (by kernel_rfl) (hval 2 49 v2 rfl rfl) h2
  obtain ⟨z2a, z2b, rfl⟩ := list_two z2 e2
  clear hA0 hval0
  have hcall : Calls Try.prog 9 #[.agg #[.int .u8 z0a, .int .u8 z0b, .int .u8 z0c], .int .i16 a1, .agg #[.int .u8 z2a, .int .u8 z2b]] W fun e W' => e = .returned (.bool true) ∧ Below W.heap.size W W' := by
    exact parts_walk z0a z0b z0c a1 z2a z2b (bounds_u8 (w0 z0a (by simp))).1 (bounds_u8 (w0 z0a (by simp))).2 (bounds_u8 (w0 z0b (by simp))).1 (bounds_u8 (w0 z0b (by simp))).2 (bounds_u8 (w0 z0c (by simp))).1 (bounds_u8 (w0 z0c (by simp))).2 (bounds_i16 w1).1 (bounds_i16 w1).2 (bounds_u8 (w2 z2a (by simp))).1 (bounds_u8 (w2 z2a (by simp))).2 (bounds_u8 (w2 z2b (by simp))).1 (bounds_u8 (w2 z2b (by simp))).2 W
  refine hcall.mono fun e W' ⟨he, bel⟩ => ?_
  subst he
  exact ⟨_, rfl, _, _, _, [], _, [], hW', trodAll_mk1 (shut_bool Try.underlying4 _), (trodAll_cons_mk (Below.trod laidOut (by kernel_rfl) (of_decide_eq_true (by kernel_rfl)) k0 bel lt0) (trodAll_cons_mk (Below.trod laidOut (by kernel_rfl) (of_decide_eq_true (by kernel_rfl)) k1 bel lt1) (trodAll_cons_mk (Below.trod laidOut (by kernel_rfl) (of_decide_eq_true (by kernel_rfl)) k2 bel lt2) trodAll_mk0))), rfl, bel.frame _, fun h => by cases h⟩
theorem over : Rows.windowPartsRow.holds Try.pinned (OpenSpec.ofChange Rows.windowPartsSpec) :=
  OpenClaim.holds_of_wide 9 Try.f9 rfl rfl rfl rfl rfl rfl rfl ⟨rfl, rfl, rfl, rfl, rfl⟩ rfl rfl rfl rfl rfl (by kernel_rfl) Try.func9 (by kernel_rfl)
    (of_decide_eq_true (by kernel_rfl)) (by unfold Func.isWrapper; first | (rw [if_pos (by decide +kernel)]; kernel_rfl) | (rw [if_neg (by decide +kernel)]; exact ⟨rfl, rfl⟩))
    (fun os started H enc _ => lifted os started H enc)
/-- The statement. -/
theorem proved : Rows.WindowPartsSaid := over
#print axioms proved
end Go.Proofs.Ythfffgdelllcdaa.windowParts
