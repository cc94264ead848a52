/- Contracts of package value's Parse and Text over this seat's program. -/
import Derived.Test.YteeajhnbifpklaaGreatDoorVtPlain
import Derived.Test.YteeajhnbifpklaaGreatDoorShelf
import Derived.Test.YteeajhnbifpklaaGreatDoorMem
import Derived.Test.YteeajhnbifpklaaGreatDoorRows
import Derived.WalkKit
import Derived.ProofKit
import Derived.OpenShut
import Derived.Handy
import Derived.Lib.Hide
import Derived.Lib.AtoiErrMem
import Derived.Lib.AppendIntMem
namespace Go.Proofs.YteeajhnbifpklaaGreatDoor
open Go Go.RowKit
/-- the closure: no digit -/
theorem pred_any (w : World) : PredGrows Tryz.prog 35 #[] notDig w := by
  intro W x hx _
  show Calls Tryz.prog 35 #[.int .i32 (x : Int)] W _
  have e : notDig x = (decide ((x : Int) < 48) || decide (57 < (x : Int))) := by
    unfold notDig
    congr 1 <;> exact decide_eq_decide.2 (by omega)
  rw [e]
  clear e
  go_enter Tryz.func35, Tryz.ntmps35
  go_wp2
  all_goals
    go_ret
    exact ⟨by simp_all, Below.refl _ _⟩
theorem enter_pred (args : Array Value) (w : World) : (callFunc 35 args).run Tryz.prog w = .ok (.enter 35 args) w := enters_of Tryz.func35 (by kernel_rfl) rfl args w
theorem idx_any (s : ByteArray) (w : World) :
    Calls Tryz.prog 34 #[.string s, .func (.func 35) #[] #[]] w fun e w' => e = .returned (.int .i64 (Lib.idxFunc notDig true s)) ∧ Below w.heap.size w w' :=
  Tryz.strings_IndexFunc_grows 35 #[] enter_pred notDig s w (pred_any w)
/-- the variable that the parser reads -/
def ErrV (w : World) : Prop := ∃ te pe, w.cell? ⟨1, 0, none⟩ = some (.iface te pe)
theorem ErrV.below {w w' : World} (h : ErrV w) (hb : Below w.heap.size w w') : ErrV w' := let ⟨te, pe, h⟩ := h; ⟨te, pe, cell_below h hb⟩
theorem pint_ok (s : ByteArray) (h : isNum s.data.toList = true) (hf : fits (numT s.data.toList) = true) (hs : s.size ≤ 281474976710656) (w : World) :
    Calls Tryz.prog 36 #[.string s, .int .i64 10, .int .i64 64] w fun e w' => e = .returned (.tuple #[.int .i64 (numT s.data.toList), .nilIface]) ∧ Below w.heap.size w w' :=
  (Tryz.strconv_ParseInt_10_at64_ok s (by omega) _ (by rw [parse_num _ h, if_pos hf]) w).mono fun e w' ⟨h1, h2⟩ => ⟨h1, by
    rcases h2 with rfl | ⟨t, rfl⟩
    · exact Below.refl _ _
    · exact Lib.bytesWorld_below _ _ _⟩
theorem pint_over (s : ByteArray) (h : isNum s.data.toList = true) (hf : fits (numT s.data.toList) = false) (hs : s.size ≤ 281474976710656) (w : World) (hv : ErrV w) :
    Calls Tryz.prog 36 #[.string s, .int .i64 10, .int .i64 64] w fun e w' => ∃ a b, e = .returned (.tuple #[.int .i64 (Lib.intSat 64 s.data.toList), .iface a (.pointer (some b))]) ∧ Below w.heap.size w w' := by
  obtain ⟨te, pe, hv⟩ := hv
  exact (Tryz.strconv_ParseInt_10_at64_range s hs (by rw [parse_num _ h, hf]; rfl) _ w hv (.inr ⟨te, pe, rfl⟩)).mono fun e w' ⟨N, h1, _, _, h2⟩ => ⟨_, _, h1, h2⟩
set_option maxHeartbeats 800000 in
theorem parse_any (s : ByteArray) (hs : s.size ≤ 281474976710656) (w : World) (hv : ErrV w) :
    Calls Tryz.prog 23 #[.string s] w fun e w' => e = .returned (.tuple #[.int .i64 (nP s.data.toList), .int .i64 (eP s.data.toList)]) ∧ Below w.heap.size w w' := by
  obtain ⟨N, hN⟩ : ∃ N, N = nP s.data.toList := ⟨_, rfl⟩
  obtain ⟨E, hE⟩ : ∃ E, E = eP s.data.toList := ⟨_, rfl⟩
  rw [← hN, ← hE]
  have HV := Lib.hid hv
  clear hv
  have hT := Lib.toList_data s
  have hSZ := Lib.size_eq s
  cases hL : s.data.toList with
  | nil =>
    have h0 : s.toList = [] := by rw [hT, hL]
    have h00 : s.size = 0 := by rw [hSZ, hL]; rfl
    rw [hL] at hN hE
    obtain rfl : N = 0 := hN
    obtain rfl : E = 1 := hE
    clear hT hL hSZ
    go_enter Tryz.func23, Tryz.ntmps23
    go_wp2_with fail
    go_ret2
    exact ⟨rfl, Below.refl _ _⟩
  | cons c r =>
    have h0 : s.toList.isEmpty = false := by rw [hT, hL]; rfl
    have h0n : ¬ s.toList = [] := by rw [hT, hL]; simp
    have hsz : 0 < s.size := by rw [hSZ, hL]; simp
    have hg : s[0]'hsz = c := by
      have : s.data.toList[0]? = some c := by rw [hL]; rfl
      have e : s.data.toList[0]? = some (s[0]'hsz) := by rw [List.getElem?_eq_getElem (by simpa using hsz)]; rfl
      rw [e] at this; exact Option.some.inj this
    rw [hL] at hN hE
    have HN := Lib.hid hN
    have HE := Lib.hid hE
    have hcb : c.toNat < 256 := c.toNat_lt
    clear hN hE hT hSZ
    by_cases h43 : c.toNat = 43
    · have hc1 : ((c.toNat : Int) == 43) = true := by rw [h43]; rfl
      have hc2 : ((c.toNat : Int) == 45) = false := by rw [h43]; rfl
      have hx : (s.extract 1 s.size).data.toList = r := by rw [Lib.extract_data, hL, List.drop_succ_cons, List.drop_zero, List.take_of_length_le]; rw [Lib.size_eq s, hL]; simp
      have hB : bodyT (c :: r) = r := by show (if c.toNat = 43 ∨ c.toNat = 45 then r else c :: r) = _; rw [if_pos (by omega)]
      have hxT := Lib.toList_data (s.extract 1 s.size)
      cases hr : r with
      | nil =>
        subst hr
        have hx0 : (s.extract 1 s.size).toList = [] := by rw [hxT, hx]
        have hNum : isNum [c] = false := by unfold isNum; rw [hB]; rfl
        obtain rfl : N = 0 := by rw [HN.out]; unfold nP; rw [hNum]; rfl
        obtain rfl : E = 1 := by rw [HE.out]; unfold eP; rw [hNum]; rfl
        clear HN HE hNum hB hx hxT hL
        go_enter Tryz.func23, Tryz.ntmps23
        go_wp2_with fail
        go_ret2
        exact ⟨rfl, Below.refl _ _⟩
      | cons c2 r2 =>
        have hxe : (s.extract 1 s.size).toList.isEmpty = false := by rw [hxT, hx, hr]; rfl
        have hxn : ¬ (s.extract 1 s.size).toList = [] := by rw [hxT, hx, hr]; simp
        have hr0 : r.isEmpty = false := by rw [hr]; rfl
        clear hr hxT
        have HI : Hid (decide (0 ≤ Lib.idxFunc notDig true (s.extract 1 s.size)) = !(r).all isDig) := Lib.hid (by rw [idx_dig, hx])
        obtain ⟨I, hI⟩ : ∃ I, I = Lib.idxFunc notDig true (s.extract 1 s.size) := ⟨_, rfl⟩
        rw [← hI] at HI
        have IDX : Hid (∀ w, Calls Tryz.prog 34 #[.string ((s.extract 1 s.size)), .func (.func 35) #[] #[]] w fun e w' => e = .returned (.int .i64 I) ∧ Below w.heap.size w w') := Lib.hid (fun w => by rw [hI]; exact idx_any _ w)
        clear hI
        cases ha : (r).all isDig with
        | false =>
          have hI0 : 0 ≤ I := by have := HI.out; rw [ha] at this; simpa using this
          have hNum : isNum (c :: r) = false := by unfold isNum; rw [hB, ha, Bool.and_false]
          obtain rfl : N = 0 := by rw [HN.out]; unfold nP; rw [hNum]; rfl
          obtain rfl : E = 1 := by rw [HE.out]; unfold eP; rw [hNum]; rfl
          clear HN HE HI hNum ha hB hx
          go_enter Tryz.func23, Tryz.ntmps23
          go_wp2_with fail
          refine (IDX.out _).mono ?_
          rintro e w1 ⟨rfl, hb1⟩
          go_wp2_with fail
          go_ret2
          exact ⟨rfl, hb1⟩
        | true =>
          have hI0 : I < 0 := by have := HI.out; rw [ha] at this; simp at this; omega
          have hNum : isNum (c :: r) = true := by unfold isNum; rw [hB, ha, Bool.and_true]; rw [hr0]; rfl
          have hNumS : isNum s.data.toList = true := by rw [hL]; exact hNum
          cases hf : fits (numT (c :: r)) with
          | true =>
            have PI := Lib.hid (fun w => pint_ok s hNumS (by rw [hL]; exact hf) hs w)
            rw [hL] at PI
            have hN1 : N = numT (c :: r) := by rw [HN.out]; unfold nP; rw [hNum, hf]; rfl
            rw [← hN1] at PI
            obtain rfl : E = 0 := by rw [HE.out]; unfold eP; rw [hNum, hf]; rfl
            clear HN HE HI hNum hNumS ha hB hx hN1 hf
            go_enter Tryz.func23, Tryz.ntmps23
            go_wp2_with fail
            refine (IDX.out _).mono ?_
            rintro e w1 ⟨rfl, hb1⟩
            go_wp2_with fail
            refine (PI.out _).mono ?_
            rintro e w2 ⟨rfl, hb2⟩
            have HB := Lib.hid (hb1.trans (hb2.mono hb1.size))
            clear hb1 hb2
            go_wp2_with fail
            go_ret2
            exact ⟨rfl, HB.out⟩
          | false =>
            have PI := Lib.hid (fun w hv => pint_over s hNumS (by rw [hL]; exact hf) hs w hv)
            obtain rfl : N = 0 := by rw [HN.out]; unfold nP; rw [hNum, hf]; rfl
            obtain rfl : E = 9 := by rw [HE.out]; unfold eP; rw [hNum, hf]; rfl
            clear HN HE HI hNum hNumS ha hB hx hf
            go_enter Tryz.func23, Tryz.ntmps23
            go_wp2_with fail
            refine (IDX.out _).mono ?_
            rintro e w1 ⟨rfl, hb1⟩
            go_wp2_with fail
            refine (PI.out _ (HV.out.below hb1)).mono ?_
            rintro e w2 ⟨a, b, rfl, hb2⟩
            have HB := Lib.hid (hb1.trans (hb2.mono hb1.size))
            clear hb1 hb2
            obtain ⟨M, hM⟩ : ∃ M, M = Lib.intSat 64 s.data.toList := ⟨_, rfl⟩
            rw [← hM]
            clear hM
            go_wp2_with fail
            go_ret2
            exact ⟨rfl, HB.out⟩
    by_cases h45 : c.toNat = 45
    · have hc1 : ((c.toNat : Int) == 43) = false := by rw [h45]; rfl
      have hc2 : ((c.toNat : Int) == 45) = true := by rw [h45]; rfl
      have hx : (s.extract 1 s.size).data.toList = r := by rw [Lib.extract_data, hL, List.drop_succ_cons, List.drop_zero, List.take_of_length_le]; rw [Lib.size_eq s, hL]; simp
      have hB : bodyT (c :: r) = r := by show (if c.toNat = 43 ∨ c.toNat = 45 then r else c :: r) = _; rw [if_pos (by omega)]
      have hxT := Lib.toList_data (s.extract 1 s.size)
      cases hr : r with
      | nil =>
        subst hr
        have hx0 : (s.extract 1 s.size).toList = [] := by rw [hxT, hx]
        have hNum : isNum [c] = false := by unfold isNum; rw [hB]; rfl
        obtain rfl : N = 0 := by rw [HN.out]; unfold nP; rw [hNum]; rfl
        obtain rfl : E = 1 := by rw [HE.out]; unfold eP; rw [hNum]; rfl
        clear HN HE hNum hB hx hxT hL
        go_enter Tryz.func23, Tryz.ntmps23
        go_wp2_with fail
        go_ret2
        exact ⟨rfl, Below.refl _ _⟩
      | cons c2 r2 =>
        have hxe : (s.extract 1 s.size).toList.isEmpty = false := by rw [hxT, hx, hr]; rfl
        have hxn : ¬ (s.extract 1 s.size).toList = [] := by rw [hxT, hx, hr]; simp
        have hr0 : r.isEmpty = false := by rw [hr]; rfl
        clear hr hxT
        have HI : Hid (decide (0 ≤ Lib.idxFunc notDig true (s.extract 1 s.size)) = !(r).all isDig) := Lib.hid (by rw [idx_dig, hx])
        obtain ⟨I, hI⟩ : ∃ I, I = Lib.idxFunc notDig true (s.extract 1 s.size) := ⟨_, rfl⟩
        rw [← hI] at HI
        have IDX : Hid (∀ w, Calls Tryz.prog 34 #[.string ((s.extract 1 s.size)), .func (.func 35) #[] #[]] w fun e w' => e = .returned (.int .i64 I) ∧ Below w.heap.size w w') := Lib.hid (fun w => by rw [hI]; exact idx_any _ w)
        clear hI
        cases ha : (r).all isDig with
        | false =>
          have hI0 : 0 ≤ I := by have := HI.out; rw [ha] at this; simpa using this
          have hNum : isNum (c :: r) = false := by unfold isNum; rw [hB, ha, Bool.and_false]
          obtain rfl : N = 0 := by rw [HN.out]; unfold nP; rw [hNum]; rfl
          obtain rfl : E = 1 := by rw [HE.out]; unfold eP; rw [hNum]; rfl
          clear HN HE HI hNum ha hB hx
          go_enter Tryz.func23, Tryz.ntmps23
          go_wp2_with fail
          refine (IDX.out _).mono ?_
          rintro e w1 ⟨rfl, hb1⟩
          go_wp2_with fail
          go_ret2
          exact ⟨rfl, hb1⟩
        | true =>
          have hI0 : I < 0 := by have := HI.out; rw [ha] at this; simp at this; omega
          have hNum : isNum (c :: r) = true := by unfold isNum; rw [hB, ha, Bool.and_true]; rw [hr0]; rfl
          have hNumS : isNum s.data.toList = true := by rw [hL]; exact hNum
          cases hf : fits (numT (c :: r)) with
          | true =>
            have PI := Lib.hid (fun w => pint_ok s hNumS (by rw [hL]; exact hf) hs w)
            rw [hL] at PI
            have hN1 : N = numT (c :: r) := by rw [HN.out]; unfold nP; rw [hNum, hf]; rfl
            rw [← hN1] at PI
            obtain rfl : E = 0 := by rw [HE.out]; unfold eP; rw [hNum, hf]; rfl
            clear HN HE HI hNum hNumS ha hB hx hN1 hf
            go_enter Tryz.func23, Tryz.ntmps23
            go_wp2_with fail
            refine (IDX.out _).mono ?_
            rintro e w1 ⟨rfl, hb1⟩
            go_wp2_with fail
            refine (PI.out _).mono ?_
            rintro e w2 ⟨rfl, hb2⟩
            have HB := Lib.hid (hb1.trans (hb2.mono hb1.size))
            clear hb1 hb2
            go_wp2_with fail
            go_ret2
            exact ⟨rfl, HB.out⟩
          | false =>
            have PI := Lib.hid (fun w hv => pint_over s hNumS (by rw [hL]; exact hf) hs w hv)
            obtain rfl : N = 0 := by rw [HN.out]; unfold nP; rw [hNum, hf]; rfl
            obtain rfl : E = 9 := by rw [HE.out]; unfold eP; rw [hNum, hf]; rfl
            clear HN HE HI hNum hNumS ha hB hx hf
            go_enter Tryz.func23, Tryz.ntmps23
            go_wp2_with fail
            refine (IDX.out _).mono ?_
            rintro e w1 ⟨rfl, hb1⟩
            go_wp2_with fail
            refine (PI.out _ (HV.out.below hb1)).mono ?_
            rintro e w2 ⟨a, b, rfl, hb2⟩
            have HB := Lib.hid (hb1.trans (hb2.mono hb1.size))
            clear hb1 hb2
            obtain ⟨M, hM⟩ : ∃ M, M = Lib.intSat 64 s.data.toList := ⟨_, rfl⟩
            rw [← hM]
            clear hM
            go_wp2_with fail
            go_ret2
            exact ⟨rfl, HB.out⟩
    · have hc1 : ((c.toNat : Int) == 43) = false := by rw [beq_eq_false_iff_ne]; omega
      have hc2 : ((c.toNat : Int) == 45) = false := by rw [beq_eq_false_iff_ne]; omega
      have hx : s.data.toList = c :: r := hL
      have hB : bodyT (c :: r) = c :: r := by show (if c.toNat = 43 ∨ c.toNat = 45 then r else c :: r) = _; rw [if_neg (by omega)]
      have HI : Hid (decide (0 ≤ Lib.idxFunc notDig true s) = !(c :: r).all isDig) := Lib.hid (by rw [idx_dig, hx])
      obtain ⟨I, hI⟩ : ∃ I, I = Lib.idxFunc notDig true s := ⟨_, rfl⟩
      rw [← hI] at HI
      have IDX : Hid (∀ w, Calls Tryz.prog 34 #[.string (s), .func (.func 35) #[] #[]] w fun e w' => e = .returned (.int .i64 I) ∧ Below w.heap.size w w') := Lib.hid (fun w => by rw [hI]; exact idx_any _ w)
      clear hI
      cases ha : (c :: r).all isDig with
      | false =>
        have hI0 : 0 ≤ I := by have := HI.out; rw [ha] at this; simpa using this
        have hNum : isNum (c :: r) = false := by unfold isNum; rw [hB, ha, Bool.and_false]
        obtain rfl : N = 0 := by rw [HN.out]; unfold nP; rw [hNum]; rfl
        obtain rfl : E = 1 := by rw [HE.out]; unfold eP; rw [hNum]; rfl
        clear HN HE HI hNum ha hB
        go_enter Tryz.func23, Tryz.ntmps23
        go_wp2_with fail
        refine (IDX.out _).mono ?_
        rintro e w1 ⟨rfl, hb1⟩
        go_wp2_with fail
        go_ret2
        exact ⟨rfl, hb1⟩
      | true =>
        have hI0 : I < 0 := by have := HI.out; rw [ha] at this; simp at this; omega
        have hNum : isNum (c :: r) = true := by unfold isNum; rw [hB, ha, Bool.and_true]; rfl
        have hNumS : isNum s.data.toList = true := by rw [hL]; exact hNum
        cases hf : fits (numT (c :: r)) with
        | true =>
          have PI := Lib.hid (fun w => pint_ok s hNumS (by rw [hL]; exact hf) hs w)
          rw [hL] at PI
          have hN1 : N = numT (c :: r) := by rw [HN.out]; unfold nP; rw [hNum, hf]; rfl
          rw [← hN1] at PI
          obtain rfl : E = 0 := by rw [HE.out]; unfold eP; rw [hNum, hf]; rfl
          clear HN HE HI hNum hNumS ha hB hN1 hf
          go_enter Tryz.func23, Tryz.ntmps23
          go_wp2_with fail
          refine (IDX.out _).mono ?_
          rintro e w1 ⟨rfl, hb1⟩
          go_wp2_with fail
          refine (PI.out _).mono ?_
          rintro e w2 ⟨rfl, hb2⟩
          have HB := Lib.hid (hb1.trans (hb2.mono hb1.size))
          clear hb1 hb2
          go_wp2_with fail
          go_ret2
          exact ⟨rfl, HB.out⟩
        | false =>
          have PI := Lib.hid (fun w hv => pint_over s hNumS (by rw [hL]; exact hf) hs w hv)
          obtain rfl : N = 0 := by rw [HN.out]; unfold nP; rw [hNum, hf]; rfl
          obtain rfl : E = 9 := by rw [HE.out]; unfold eP; rw [hNum, hf]; rfl
          clear HN HE HI hNum hNumS ha hB hf
          go_enter Tryz.func23, Tryz.ntmps23
          go_wp2_with fail
          refine (IDX.out _).mono ?_
          rintro e w1 ⟨rfl, hb1⟩
          go_wp2_with fail
          refine (PI.out _ (HV.out.below hb1)).mono ?_
          rintro e w2 ⟨a, b, rfl, hb2⟩
          have HB := Lib.hid (hb1.trans (hb2.mono hb1.size))
          clear hb1 hb2
          obtain ⟨M, hM⟩ : ∃ M, M = Lib.intSat 64 s.data.toList := ⟨_, rfl⟩
          rw [← hM]
          clear hM
          go_wp2_with fail
          go_ret2
          exact ⟨rfl, HB.out⟩
end Go.Proofs.YteeajhnbifpklaaGreatDoor
