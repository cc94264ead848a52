/- DictPlays: the switch's arm 3. DictPlays: the switch's arm 4. DictPlays: the switch's arm 5. DictPlays: the switch's arm 6. DictPlays: the switch. DictPlays, walked. -/
import Derived.Test.YtghimladdioajaaPlaysA
import Derived.Deep.CutRange
import Derived.Test.YtghimladdioajaaPlaysB
import Derived.Deep.CutBlock
namespace Go.Proofs.Ytghimladdioajaa
open Go Go.RowKit
set_option linter.unusedVariables false
set_option linter.unusedSimpArgs false
set_option maxRecDepth 100000
set_option maxHeartbeats 12800000 in
theorem plays_arm3 {G : Tm → Bool} (HG : Hid (GoodFn G)) {w w2 wr w6 : World} (HM : Hid (MaxV w)) {p m q : Nat} {room : Int} (HRO : Hid (1 ≤ room ∧ room ≤ 65536)) {av : Option Addr} {cv : Nat} {ts : List Tm} (HB6 : Hid (BothV G w p m w2.heap.size room (.slice av ts.length cv) ts w6)) {kd nn k1 : Int} {s1 t1 l1 : ByteArray} {k2 : Int} {s2 t2 l2 : ByteArray} {k3 : Int} {s3 t3 l3 : ByteArray} {ka kb kc kx1 : Int} {xs1 xt1 xl1 : ByteArray} {kx2 : Int} {xs2 xt2 xl2 : ByteArray} {kx3 : Int} {xs3 xt3 xl3 : ByteArray} (HX6 : Hid (w6.heap[wr.heap.size]? = some (.cells #[.int .u8 kd, .int .i64 nn, .int .i64 k1, .string s1, .string t1, .string l1, .int .i64 k2, .string s2, .string t2, .string l2, .int .i64 k3, .string s3, .string t3, .string l3, .int .i64 ka, .int .i64 kb, .int .i64 kc] 67 (0, 0)))) (HT6 : Hid (w6.heap[q]? = some (.cells #[.int .i64 kx1, .string xs1, .string xt1, .string xl1, .int .i64 kx2, .string xs2, .string xt2, .string xl2, .int .i64 kx3, .string xs3, .string xt3, .string xl3] 51 (0, 0)))) {X1 X2 X3 : Tm} (HSK : Hid ((Small X1 ∧ Small X2 ∧ Small X3) ∧ KeyT X1 ∧ KeyT X2 ∧ KeyT X3)) (HV : Hid (kx1 = kindV X1 ∧ xs1 = text0 X1 ∧ xt1 = text1 X1 ∧ xl1 = text2 X1 ∧ kx2 = kindV X2 ∧ xs2 = text0 X2 ∧ xt2 = text1 X2 ∧ xl2 = text2 X2 ∧ kx3 = kindV X3 ∧ xs3 = text0 X3 ∧ xt3 = text1 X3 ∧ xl3 = text2 X3)) {xv : Value} (HXV : Hid (xv = tmV X3)) (HKD : Hid (0 ≤ kd ∧ kd ≤ 255)) (hkm : kd % 7 = 3)
    {sl0 sl1 sl2 sl3 sl4 sl6 sl8 sl12 sl13 sl14 sl15 sl16 sl17 sl18 sl19 sl20 sl21 sl22 sl23 sl24 sl25 sl26 sl27 sl28 sl29 sl30 sl31 sl32 sl33 sl34 sl35 sl36 sl37 sl38 sl39 sl40 sl41 sl42 sl43 sl44 sl45 sl46 sl47 sl48 sl49 sl50 sl51 sl52 sl53 sl54 sl55 sl56 sl57 sl58 sl59 sl60 sl61 sl62 sl63 sl64 sl65 sl66 sl67 sl68 sl69 sl70 sl71 sl72 sl73 sl74 sl75 sl76 sl77 sl78 sl79 sl80 sl81 sl82 sl83 sl84 sl85 sl86 sl87 sl88 sl89 sl90 sl91 sl92 sl93 sl94 sl95 sl96 sl97 sl98 sl99 sl100 sl101 sl102 sl103 sl104 sl105 sl106 sl107 sl108 sl109 sl111 sl112 sl113 sl114 sl115 sl116 sl117 sl118 sl119 sl120 sl121 sl122 sl123 sl124 sl125 sl126 sl127 sl128 sl129 sl130 sl131 sl132 sl133 sl134 sl135 sl136 sl137 sl138 sl139 sl140 sl141 sl142 sl143 sl144 sl145 sl146 sl147 sl148 sl149 sl150 sl151 sl152 sl153 sl154 sl155 sl156 sl157 sl158 sl159 sl160 sl161 sl162 sl163 sl164 sl165 sl166 sl167 sl168 sl169 sl170 sl171 sl172 sl173 sl174 sl175 sl176 sl177 sl178 sl179 sl180 sl181 sl182 sl183 sl184 sl185 sl186 sl187 sl188 sl189 sl190 sl191 sl192 sl193 sl194 sl195 sl196 sl197 sl198 sl199 sl200 sl201 sl202 sl203 sl204 sl205 sl206 sl207 sl208 sl209 sl210 sl211 sl212 sl213 sl214 sl215 sl216 sl217 sl218 sl219 sl220 sl221 sl222 sl223 sl224 sl225 sl226 sl227 sl228 sl229 sl230 sl231 sl232 sl233 sl234 sl235 sl236 sl237 sl238 sl239 sl240 sl241 sl242 sl243 sl244 sl245 sl246 sl247 sl248 sl249 sl250 sl251 sl252 sl253 sl254 sl255 sl256 sl257 sl258 sl259 sl260 sl261 sl262 sl263 sl264 sl265 sl266 sl267 sl268 sl269 sl270 sl271 sl272 sl273 sl274 sl275 sl276 sl277 sl278 sl279 sl280 sl281 sl282 sl283 sl284 sl285 sl286 sl287 sl288 sl289 sl290 sl291 sl292 sl293 sl294 sl295 sl296 sl297 sl298 sl299 sl300 sl301 sl302 sl303 sl304 sl305 sl306 sl307 : Value} (J K' : Act → World → Prop) (Q' : Exit → Act → World → Prop) (hP : ∀ c (a a' : Act) w, a.defers = a'.defers → Q' (.panic c) a w → Q' (.panic c) a' w) (h1 : ∀ a' w', (∃ ul4 ul12 ul13 ul14 ul15 ul16 ul17 ul18 ul19 ul20 ul21 ul22 ul23 ul24 ul25 ul26 ul27 ul28 ul29 ul30 ul31 ul32 ul33 ul111 ul112 ul113 ul114 ul115 ul116 ul117 ul118 ul119 ul120 ul121 ul122 ul123 ul124 ul125 ul126 ul127 ul128 ul129 ul130 ul131 ul132 ul133 ul134 ul135 ul136 ul137 ul138 ul139 ul140 ul141 ul142 ul143 ul144 ul145 ul146 ul147 ul148 ul149 ul150 ul151 ul152 ul153 ul154 ul155 ul156 ul157 ul158 ul159 ul160 ul161 ul162 ul163 ul164 ul165 ul166 ul167 ul168 ul169 ul170 ul171 ul172 ul173 ul174 ul175 ul176 ul177 ul178 ul179 ul180 ul181 ul182 ul183 ul184 ul185 ul186 ul187 ul188 ul189 ul190 ul191 ul192 ul193 ul194 ul195 ul196 ul197 ul198 ul199 ul200 ul201 ul202 ul203 ul204 ul205 ul206 ul207 ul208 ul209 ul210 ul211 ul212 ul213 ul214 ul215 ul216 ul217 ul218 ul219 ul220 ul221 ul222 ul223 ul224 ul225 ul226 ul227 ul228 ul229 ul230 ul231 ul232 ul233 ul234 ul235 ul236 ul237 ul238 ul239 ul240 ul241 ul242 ul243 ul244 ul245 ul246 ul247 ul248 ul249 ul250 ul251 ul252 ul253 ul254 ul255 ul256 ul257 ul258 ul259 ul260 ul261 ul262 ul263 ul264 ul265 ul266 ul267 ul268 ul269 ul270 ul271 ul272 ul273 ul274 ul275 ul276 ul277 ul278 ul279 ul280 ul281 ul282 ul283 ul284 ul285 ul286 ul287 ul288 ul289 ul290 ul291 ul292 ul293 ul294 ul295 ul296 ul297 ul298 ul299 ul300 ul301 ul302 : Value, Hid (∃ ts' V', BothV G w p m w2.heap.size room V' ts' w') ∧ a' = ⟨(sl0 :: sl1 :: sl2 :: sl3 :: ul4 :: .pointer (some ⟨p, 0, none⟩) :: sl6 :: .pointer (some ⟨w2.heap.size, 0, none⟩) :: sl8 :: .pointer (some ⟨wr.heap.size, 0, none⟩) :: .pointer (some ⟨q, 0, none⟩) :: xv :: ul12 :: ul13 :: ul14 :: ul15 :: ul16 :: ul17 :: ul18 :: ul19 :: ul20 :: ul21 :: ul22 :: ul23 :: ul24 :: ul25 :: ul26 :: ul27 :: ul28 :: ul29 :: ul30 :: ul31 :: ul32 :: ul33 :: sl34 :: sl35 :: sl36 :: sl37 :: sl38 :: sl39 :: sl40 :: sl41 :: sl42 :: sl43 :: sl44 :: sl45 :: sl46 :: sl47 :: sl48 :: sl49 :: sl50 :: sl51 :: sl52 :: sl53 :: sl54 :: sl55 :: sl56 :: sl57 :: sl58 :: sl59 :: sl60 :: sl61 :: sl62 :: sl63 :: sl64 :: sl65 :: sl66 :: sl67 :: sl68 :: sl69 :: sl70 :: sl71 :: sl72 :: sl73 :: sl74 :: sl75 :: sl76 :: sl77 :: sl78 :: sl79 :: sl80 :: sl81 :: sl82 :: sl83 :: sl84 :: sl85 :: sl86 :: sl87 :: sl88 :: sl89 :: sl90 :: sl91 :: sl92 :: sl93 :: sl94 :: sl95 :: sl96 :: sl97 :: sl98 :: sl99 :: sl100 :: sl101 :: sl102 :: sl103 :: sl104 :: sl105 :: sl106 :: sl107 :: sl108 :: sl109 :: .int .u8 (kd % 7) :: ul111 :: ul112 :: ul113 :: ul114 :: ul115 :: ul116 :: ul117 :: ul118 :: ul119 :: ul120 :: ul121 :: ul122 :: ul123 :: ul124 :: ul125 :: ul126 :: ul127 :: ul128 :: ul129 :: ul130 :: ul131 :: ul132 :: ul133 :: ul134 :: ul135 :: ul136 :: ul137 :: ul138 :: ul139 :: ul140 :: ul141 :: ul142 :: ul143 :: ul144 :: ul145 :: ul146 :: ul147 :: ul148 :: ul149 :: ul150 :: ul151 :: ul152 :: ul153 :: ul154 :: ul155 :: ul156 :: ul157 :: ul158 :: ul159 :: ul160 :: ul161 :: ul162 :: ul163 :: ul164 :: ul165 :: ul166 :: ul167 :: ul168 :: ul169 :: ul170 :: ul171 :: ul172 :: ul173 :: ul174 :: ul175 :: ul176 :: ul177 :: ul178 :: ul179 :: ul180 :: ul181 :: ul182 :: ul183 :: ul184 :: ul185 :: ul186 :: ul187 :: ul188 :: ul189 :: ul190 :: ul191 :: ul192 :: ul193 :: ul194 :: ul195 :: ul196 :: ul197 :: ul198 :: ul199 :: ul200 :: ul201 :: ul202 :: ul203 :: ul204 :: ul205 :: ul206 :: ul207 :: ul208 :: ul209 :: ul210 :: ul211 :: ul212 :: ul213 :: ul214 :: ul215 :: ul216 :: ul217 :: ul218 :: ul219 :: ul220 :: ul221 :: ul222 :: ul223 :: ul224 :: ul225 :: ul226 :: ul227 :: ul228 :: ul229 :: ul230 :: ul231 :: ul232 :: ul233 :: ul234 :: ul235 :: ul236 :: ul237 :: ul238 :: ul239 :: ul240 :: ul241 :: ul242 :: ul243 :: ul244 :: ul245 :: ul246 :: ul247 :: ul248 :: ul249 :: ul250 :: ul251 :: ul252 :: ul253 :: ul254 :: ul255 :: ul256 :: ul257 :: ul258 :: ul259 :: ul260 :: ul261 :: ul262 :: ul263 :: ul264 :: ul265 :: ul266 :: ul267 :: ul268 :: ul269 :: ul270 :: ul271 :: ul272 :: ul273 :: ul274 :: ul275 :: ul276 :: ul277 :: ul278 :: ul279 :: ul280 :: ul281 :: ul282 :: ul283 :: ul284 :: ul285 :: ul286 :: ul287 :: ul288 :: ul289 :: ul290 :: ul291 :: ul292 :: ul293 :: ul294 :: ul295 :: ul296 :: ul297 :: ul298 :: ul299 :: ul300 :: ul301 :: ul302 :: sl303 :: sl304 :: sl305 :: sl306 :: sl307 :: []).toArray, []⟩) → J a' w') (h2 : ∀ a' w', Met J a' w' → K' a' w') :
    Code.wp Try.prog ((Try.f6.body.bind (findC (isBlk 2))).getD .skip) (Exit.then K' Q') ⟨(sl0 :: sl1 :: sl2 :: sl3 :: sl4 :: .pointer (some ⟨p, 0, none⟩) :: sl6 :: .pointer (some ⟨w2.heap.size, 0, none⟩) :: sl8 :: .pointer (some ⟨wr.heap.size, 0, none⟩) :: .pointer (some ⟨q, 0, none⟩) :: xv :: sl12 :: sl13 :: sl14 :: sl15 :: sl16 :: sl17 :: sl18 :: sl19 :: sl20 :: sl21 :: sl22 :: sl23 :: sl24 :: sl25 :: sl26 :: sl27 :: sl28 :: sl29 :: sl30 :: sl31 :: sl32 :: sl33 :: sl34 :: sl35 :: sl36 :: sl37 :: sl38 :: sl39 :: sl40 :: sl41 :: sl42 :: sl43 :: sl44 :: sl45 :: sl46 :: sl47 :: sl48 :: sl49 :: sl50 :: sl51 :: sl52 :: sl53 :: sl54 :: sl55 :: sl56 :: sl57 :: sl58 :: sl59 :: sl60 :: sl61 :: sl62 :: sl63 :: sl64 :: sl65 :: sl66 :: sl67 :: sl68 :: sl69 :: sl70 :: sl71 :: sl72 :: sl73 :: sl74 :: sl75 :: sl76 :: sl77 :: sl78 :: sl79 :: sl80 :: sl81 :: sl82 :: sl83 :: sl84 :: sl85 :: sl86 :: sl87 :: sl88 :: sl89 :: sl90 :: sl91 :: sl92 :: sl93 :: sl94 :: sl95 :: sl96 :: sl97 :: sl98 :: sl99 :: sl100 :: sl101 :: sl102 :: sl103 :: sl104 :: sl105 :: sl106 :: sl107 :: sl108 :: sl109 :: .int .u8 (kd % 7) :: sl111 :: sl112 :: sl113 :: sl114 :: sl115 :: sl116 :: sl117 :: sl118 :: sl119 :: sl120 :: sl121 :: sl122 :: sl123 :: sl124 :: sl125 :: sl126 :: sl127 :: sl128 :: sl129 :: sl130 :: sl131 :: sl132 :: sl133 :: sl134 :: sl135 :: sl136 :: sl137 :: sl138 :: sl139 :: sl140 :: sl141 :: sl142 :: sl143 :: sl144 :: sl145 :: sl146 :: sl147 :: sl148 :: sl149 :: sl150 :: sl151 :: sl152 :: sl153 :: sl154 :: sl155 :: sl156 :: sl157 :: sl158 :: sl159 :: sl160 :: sl161 :: sl162 :: sl163 :: sl164 :: sl165 :: sl166 :: sl167 :: sl168 :: sl169 :: sl170 :: sl171 :: sl172 :: sl173 :: sl174 :: sl175 :: sl176 :: sl177 :: sl178 :: sl179 :: sl180 :: sl181 :: sl182 :: sl183 :: sl184 :: sl185 :: sl186 :: sl187 :: sl188 :: sl189 :: sl190 :: sl191 :: sl192 :: sl193 :: sl194 :: sl195 :: sl196 :: sl197 :: sl198 :: sl199 :: sl200 :: sl201 :: sl202 :: sl203 :: sl204 :: sl205 :: sl206 :: sl207 :: sl208 :: sl209 :: sl210 :: sl211 :: sl212 :: sl213 :: sl214 :: sl215 :: sl216 :: sl217 :: sl218 :: sl219 :: sl220 :: sl221 :: sl222 :: sl223 :: sl224 :: sl225 :: sl226 :: sl227 :: sl228 :: sl229 :: sl230 :: sl231 :: sl232 :: sl233 :: sl234 :: sl235 :: sl236 :: sl237 :: sl238 :: sl239 :: sl240 :: sl241 :: sl242 :: sl243 :: sl244 :: sl245 :: sl246 :: sl247 :: sl248 :: sl249 :: sl250 :: sl251 :: sl252 :: sl253 :: sl254 :: sl255 :: sl256 :: sl257 :: sl258 :: sl259 :: sl260 :: sl261 :: sl262 :: sl263 :: sl264 :: sl265 :: sl266 :: sl267 :: sl268 :: sl269 :: sl270 :: sl271 :: sl272 :: sl273 :: sl274 :: sl275 :: sl276 :: sl277 :: sl278 :: sl279 :: sl280 :: sl281 :: sl282 :: sl283 :: sl284 :: sl285 :: sl286 :: sl287 :: sl288 :: sl289 :: sl290 :: sl291 :: sl292 :: sl293 :: sl294 :: sl295 :: sl296 :: sl297 :: sl298 :: sl299 :: sl300 :: sl301 :: sl302 :: sl303 :: sl304 :: sl305 :: sl306 :: sl307 :: []).toArray, []⟩ w6 := by
  conv => arg 2; whnf
  have hk0 := HKD.out.1
  have hk1 := HKD.out.2
  have hq0 : (kd % 7 == 0) = false := by simp; omega
  have hq1 : (kd % 7 == 1) = false := by simp; omega
  have hq2 : (kd % 7 == 2) = false := by simp; omega
  have hq3 : (kd % 7 == 3) = true := by simp; omega
  clear hkm
  obtain ⟨c0, c1, c2, c3, c4, c5, c6, c7, c8, c9, c10, c11, c12, c13, c14, c15, c16⟩ := cells17 HX6.out
  obtain ⟨n0, n1, n2, n3, n4, n5, n6, n7, n8, n9, n10, n11⟩ := cells12 HT6.out
  clear n0 n1 n2 n3 n4 n5 n6 n7 n8 n9 n10 n11
  by_cases his : 0 ≤ nn ∧ nn < (ts.length : Int)
  · obtain ⟨jn, hjn⟩ : ∃ jn : Nat, nn = jn := ⟨nn.toNat, by omega⟩
    subst hjn
    have hjl : jn < ts.length := by omega
    have HTY := Lib.hid (term_yes jn hjl HB6.out.1)
    have hfy := HB6.out.2.2.2.1 _ (List.getElem_mem hjl)
    obtain ⟨g, cap1, hv, hg0, hg, r0, r1, r2, r3⟩ := doc_at HB6.out.2.2.1 jn hjl
    obtain rfl : av = some ⟨g, 0, none⟩ := by injection hv
    obtain ⟨Y, hY⟩ : ∃ Y, Y = ts[jn]'hjl := ⟨_, rfl⟩
    rw [← hY] at HTY hfy r0 r1 r2 r3
    have HRF := Lib.hid (fun w => ref_any Y hfy.1 w)
    have QE := neq_refT Y
    unfold refT at HRF QE
    clear hfy hY hv hg0 hg
    obtain ⟨yv, hyv⟩ : ∃ v, v = tmV Y := ⟨_, rfl⟩
    obtain ⟨yk, hyk⟩ : ∃ v, v = kindV Y := ⟨_, rfl⟩
    obtain ⟨ys0, hys0⟩ : ∃ v, v = text0 Y := ⟨_, rfl⟩
    obtain ⟨ys1, hys1⟩ : ∃ v, v = text1 Y := ⟨_, rfl⟩
    obtain ⟨ys2, hys2⟩ : ∃ v, v = text2 Y := ⟨_, rfl⟩
    rw [← hyv] at HTY HRF
    rw [← hyk, ← hys0, ← hys1, ← hys2] at HRF QE
    rw [← hyk] at r0
    rw [← hys0] at r1
    rw [← hys1] at r2
    rw [← hys2] at r3
    clear hyv hyk hys0 hys1 hys2
    have b3 : (0 : Int) ≤ (jn : Int) := by omega
    have b4 : (jn : Int) < (ts.length : Int) := by omega
    have QG : ∀ w, (Go.eqGuard BinOp.neq 31 (.tmp 210) (.tmp 216) (.agg #[.int .i64 yk, .string ys0, .string ys1, .string ys2]) (.agg #[.int .i64 yk, .string ys0, .string ys1, .string ys2])).run Try.prog w = .ok () w := fun w => by kernel_rfl
    clear his hjl
    go_wp2_with fail
    refine HTY.out.mono ?_
    rintro e w7 ⟨rfl, hb7⟩
    have HB7 := Lib.hid (HB6.out.below hb7)
    obtain ⟨x0, x1, x2, x3⟩ := cells2 HB7.out.2.1
    have d1 := cell_below c1 hb7
    have e0 := cell_below r0 hb7
    have e1 := cell_below r1 hb7
    have e2 := cell_below r2 hb7
    have e3 := cell_below r3 hb7
    have HI : Hid (w7.cell? ⟨w2.heap.size, 0, none⟩ = some (.int .i64 room) ∧ w7.cell? ⟨w2.heap.size, 1, none⟩ = some (.slice (some ⟨g, 0, none⟩) ts.length cv) ∧ w7.cell? ⟨wr.heap.size, 1, none⟩ = some (.int .i64 jn) ∧ w7.cell? ⟨g, jn * 4, none⟩ = some (.int .i64 yk) ∧ w7.cell? ⟨g, jn * 4 + 1, none⟩ = some (.string ys0) ∧ w7.cell? ⟨g, jn * 4 + 2, none⟩ = some (.string ys1) ∧ w7.cell? ⟨g, jn * 4 + 3, none⟩ = some (.string ys2)) := Lib.hid ⟨x0, x1, d1, e0, e1, e2, e3⟩
    clear hb7 r0 r1 r2 r3 e0 e1 e2 e3 c0 c1 c2 c3 c4 c5 c6 c7 c8 c9 c10 c11 c12 c13 c14 c15 c16
    go_wp2_with fail
    clear x0 x1 x2 x3 d1
    refine wp_region_held_drew (S := (fun w' => w'.cell? ⟨w2.heap.size, 0, none⟩ = some (.int .i64 room) ∧ w'.cell? ⟨w2.heap.size, 1, none⟩ = some (.slice (some ⟨g, 0, none⟩) ts.length cv) ∧ w'.cell? ⟨wr.heap.size, 1, none⟩ = some (.int .i64 jn) ∧ w'.cell? ⟨g, jn * 4, none⟩ = some (.int .i64 yk) ∧ w'.cell? ⟨g, jn * 4 + 1, none⟩ = some (.string ys0) ∧ w'.cell? ⟨g, jn * 4 + 2, none⟩ = some (.string ys1) ∧ w'.cell? ⟨g, jn * 4 + 3, none⟩ = some (.string ys2))) (by kernel_rfl) ?hSty0 (fun hHeld => ?_)
    case hSty0 => exact HI.out
    refine wpAnyH_take (i := 0) (oi := ⟨some 202, _, _, _, _, _⟩) (v := ?vty0) rfl (by kernel_rfl) (by kernel_rfl) (by kernel_rfl) (fun _ _ _ h => hP _ _ _ _ (by rfl) h) (Or.inl ⟨by kernel_rfl, ?yty0⟩) (by assumption) ?rty0
    case yty0 =>
      intro w hSw
      try dsimp only at hSw
      obtain ⟨x0, x1, d1, e0, e1, e2, e3⟩ := hSw
      first | (go_simp; done) | (go_simp; with_reducible rfl)
    try simp only [Act.put, List.setIfInBounds_toArray, List.set_cons_zero, List.set_cons_succ]
    refine wpAnyH_take (i := 1) (oi := ⟨some 203, _, _, _, _, _⟩) (v := ?vty1) rfl (by kernel_rfl) (by kernel_rfl) (by kernel_rfl) (fun _ _ _ h => hP _ _ _ _ (by rfl) h) (Or.inl ⟨by kernel_rfl, ?yty1⟩) (by assumption) ?rty1
    case yty1 =>
      intro w hSw
      try dsimp only at hSw
      obtain ⟨x0, x1, d1, e0, e1, e2, e3⟩ := hSw
      first | (go_simp; done) | (go_simp; with_reducible rfl)
    try simp only [Act.put, List.setIfInBounds_toArray, List.set_cons_zero, List.set_cons_succ]
    refine wpAnyH_take (i := 2) (oi := ⟨some 204, _, _, _, _, _⟩) (v := ?vty2) rfl (by kernel_rfl) (by kernel_rfl) (by kernel_rfl) (fun _ _ _ h => hP _ _ _ _ (by rfl) h) (Or.inl ⟨by kernel_rfl, ?yty2⟩) (by assumption) ?rty2
    case yty2 =>
      intro w hSw
      try dsimp only at hSw
      obtain ⟨x0, x1, d1, e0, e1, e2, e3⟩ := hSw
      first | (go_simp; done) | (go_simp; with_reducible rfl)
    try simp only [Act.put, List.setIfInBounds_toArray, List.set_cons_zero, List.set_cons_succ]
    refine wpAnyH_take (i := 3) (oi := ⟨some 205, _, _, _, _, _⟩) (v := ?vty3) rfl (by kernel_rfl) (by kernel_rfl) (by kernel_rfl) (fun _ _ _ h => hP _ _ _ _ (by rfl) h) (Or.inl ⟨by kernel_rfl, ?yty3⟩) (by assumption) ?rty3
    case yty3 =>
      intro w hSw
      try dsimp only at hSw
      obtain ⟨x0, x1, d1, e0, e1, e2, e3⟩ := hSw
      first | (go_simp; done) | (go_simp; with_reducible rfl)
    try simp only [Act.put, List.setIfInBounds_toArray, List.set_cons_zero, List.set_cons_succ]
    refine wpAnyH_take (i := 4) (oi := ⟨some 206, _, _, _, _, _⟩) (v := ?vty4) rfl (by kernel_rfl) (by kernel_rfl) (by kernel_rfl) (fun _ _ _ h => hP _ _ _ _ (by rfl) h) (Or.inl ⟨by kernel_rfl, ?yty4⟩) (by assumption) ?rty4
    case yty4 =>
      intro w hSw
      try dsimp only at hSw
      obtain ⟨x0, x1, d1, e0, e1, e2, e3⟩ := hSw
      first | (go_simp; done) | (go_simp; with_reducible rfl)
    try simp only [Act.put, List.setIfInBounds_toArray, List.set_cons_zero, List.set_cons_succ]
    refine wpAnyH_take (i := 5) (oi := ⟨some 207, _, _, _, _, _⟩) (v := ?vty5) rfl (by kernel_rfl) (by kernel_rfl) (by kernel_rfl) (fun _ _ _ h => hP _ _ _ _ (by rfl) h) (Or.inl ⟨by kernel_rfl, ?yty5⟩) (by assumption) ?rty5
    case yty5 =>
      intro w hSw
      try dsimp only at hSw
      obtain ⟨x0, x1, d1, e0, e1, e2, e3⟩ := hSw
      first | (go_simp; done) | (go_simp; with_reducible rfl)
    try simp only [Act.put, List.setIfInBounds_toArray, List.set_cons_zero, List.set_cons_succ]
    refine wpAnyH_take (i := 6) (oi := ⟨some 208, _, _, _, _, _⟩) (v := ?vty6) rfl (by kernel_rfl) (by kernel_rfl) (by kernel_rfl) (fun _ _ _ h => hP _ _ _ _ (by rfl) h) (Or.inl ⟨by kernel_rfl, ?yty6⟩) (by assumption) ?rty6
    case yty6 =>
      intro w hSw
      try dsimp only at hSw
      obtain ⟨x0, x1, d1, e0, e1, e2, e3⟩ := hSw
      first | (go_simp; done) | (go_simp; with_reducible rfl)
    try simp only [Act.put, List.setIfInBounds_toArray, List.set_cons_zero, List.set_cons_succ]
    refine wpAnyH_take (i := 7) (oi := ⟨some 209, _, _, _, _, _⟩) (v := ?vty7) rfl (by kernel_rfl) (by kernel_rfl) (by kernel_rfl) (fun _ _ _ h => hP _ _ _ _ (by rfl) h) (Or.inl ⟨by kernel_rfl, ?yty7⟩) (by assumption) ?rty7
    case yty7 =>
      intro w hSw
      try dsimp only at hSw
      obtain ⟨x0, x1, d1, e0, e1, e2, e3⟩ := hSw
      first | (go_simp; done) | (go_simp; with_reducible rfl)
    try simp only [Act.put, List.setIfInBounds_toArray, List.set_cons_zero, List.set_cons_succ]
    refine wpAnyH_take (i := 9) (oi := ⟨some 211, _, _, _, _, _⟩) (v := ?vty9) rfl (by kernel_rfl) (by kernel_rfl) (by kernel_rfl) (fun _ _ _ h => hP _ _ _ _ (by rfl) h) (Or.inl ⟨by kernel_rfl, ?yty9⟩) (by assumption) ?rty9
    case yty9 =>
      intro w hSw
      try dsimp only at hSw
      obtain ⟨x0, x1, d1, e0, e1, e2, e3⟩ := hSw
      first | (go_simp; done) | (go_simp; with_reducible rfl)
    try simp only [Act.put, List.setIfInBounds_toArray, List.set_cons_zero, List.set_cons_succ]
    refine wpAnyH_take (i := 10) (oi := ⟨some 212, _, _, _, _, _⟩) (v := ?vty10) rfl (by kernel_rfl) (by kernel_rfl) (by kernel_rfl) (fun _ _ _ h => hP _ _ _ _ (by rfl) h) (Or.inl ⟨by kernel_rfl, ?yty10⟩) (by assumption) ?rty10
    case yty10 =>
      intro w hSw
      try dsimp only at hSw
      obtain ⟨x0, x1, d1, e0, e1, e2, e3⟩ := hSw
      first | (go_simp; done) | (go_simp; with_reducible rfl)
    try simp only [Act.put, List.setIfInBounds_toArray, List.set_cons_zero, List.set_cons_succ]
    refine wpAnyH_take (i := 11) (oi := ⟨some 213, _, _, _, _, _⟩) (v := ?vty11) rfl (by kernel_rfl) (by kernel_rfl) (by kernel_rfl) (fun _ _ _ h => hP _ _ _ _ (by rfl) h) (Or.inl ⟨by kernel_rfl, ?yty11⟩) (by assumption) ?rty11
    case yty11 =>
      intro w hSw
      try dsimp only at hSw
      obtain ⟨x0, x1, d1, e0, e1, e2, e3⟩ := hSw
      first | (go_simp; done) | (go_simp; with_reducible rfl)
    try simp only [Act.put, List.setIfInBounds_toArray, List.set_cons_zero, List.set_cons_succ]
    refine wpAnyH_take (i := 12) (oi := ⟨some 214, _, _, _, _, _⟩) (v := ?vty12) rfl (by kernel_rfl) (by kernel_rfl) (by kernel_rfl) (fun _ _ _ h => hP _ _ _ _ (by rfl) h) (Or.inl ⟨by kernel_rfl, ?yty12⟩) (by assumption) ?rty12
    case yty12 =>
      intro w hSw
      try dsimp only at hSw
      obtain ⟨x0, x1, d1, e0, e1, e2, e3⟩ := hSw
      first | (go_simp; done) | (go_simp; with_reducible rfl)
    try simp only [Act.put, List.setIfInBounds_toArray, List.set_cons_zero, List.set_cons_succ]
    refine wpAnyH_take (i := 13) (oi := ⟨some 215, _, _, _, _, _⟩) (v := ?vty13) rfl (by kernel_rfl) (by kernel_rfl) (by kernel_rfl) (fun _ _ _ h => hP _ _ _ _ (by rfl) h) (Or.inl ⟨by kernel_rfl, ?yty13⟩) (by assumption) ?rty13
    case yty13 =>
      intro w hSw
      try dsimp only at hSw
      obtain ⟨x0, x1, d1, e0, e1, e2, e3⟩ := hSw
      first | (go_simp; done) | (go_simp; with_reducible rfl)
    try simp only [Act.put, List.setIfInBounds_toArray, List.set_cons_zero, List.set_cons_succ]
    refine wpAnyH_take (i := 14) (oi := ⟨some 216, _, _, _, _, _⟩) (v := ?vty14) rfl (by kernel_rfl) (by kernel_rfl) (by kernel_rfl) (fun _ _ _ h => hP _ _ _ _ (by rfl) h) (Or.inl ⟨by kernel_rfl, ?yty14⟩) (by assumption) ?rty14
    case yty14 =>
      intro w hSw
      try dsimp only at hSw
      obtain ⟨x0, x1, d1, e0, e1, e2, e3⟩ := hSw
      first | (go_simp; done) | (go_simp; with_reducible rfl)
    try simp only [Act.put, List.setIfInBounds_toArray, List.set_cons_zero, List.set_cons_succ]
    refine wpAnyH_ready (rs := [8]) (by kernel_rfl) (by simp) ?_
    refine AllReadyH.cons (i := 8) (o := ⟨some 210, _, _, _, _, _⟩) rfl (fun K hK => ?_) AllReadyH.nil
    go_simp
    refine (HRF.out _).mono ?_
    rintro e w8 ⟨rfl, hb8⟩
    have HB8 := Lib.hid (HB7.out.below ((Below.refl _ w7).drew.trans hb8))
    go_wp2_with fail
    refine hK.out _ _ ?_ (fun hHeld => ?_)
    · exact kept6 (by assumption) hb8
    clear hK K
    try simp only [Act.put, List.setIfInBounds_toArray, List.set_cons_zero, List.set_cons_succ]
    refine wpAnyH_take (i := 15) (oi := ⟨some 217, _, _, _, _, _⟩) (v := ?vty15) rfl (by kernel_rfl) (by kernel_rfl) (by kernel_rfl) (fun _ _ _ h => hP _ _ _ _ (by rfl) h) (Or.inl ⟨by kernel_rfl, ?yty15⟩) (by assumption) ?rty15
    case yty15 =>
      intro w hSw
      try dsimp only at hSw
      obtain ⟨x0, x1, d1, e0, e1, e2, e3⟩ := hSw
      first | (go_simp; done) | (go_simp; with_reducible rfl)
    try simp only [Act.put, List.setIfInBounds_toArray, List.set_cons_zero, List.set_cons_succ]
    refine wpAnyH_take (i := 16) (oi := ⟨some 218, _, _, _, _, _⟩) (v := ?vty16) rfl (by kernel_rfl) (by kernel_rfl) (by kernel_rfl) (fun _ _ _ h => hP _ _ _ _ (by rfl) h) (Or.inl ⟨by kernel_rfl, ?yty16⟩) (by assumption) ?rty16
    case yty16 =>
      intro w hSw
      try dsimp only at hSw
      obtain ⟨x0, x1, d1, e0, e1, e2, e3⟩ := hSw
      first | (go_simp; done) | (go_simp; with_reducible rfl)
    try simp only [Act.put, List.setIfInBounds_toArray, List.set_cons_zero, List.set_cons_succ]
    refine wpAnyH_take (i := 17) (oi := ⟨some 219, _, _, _, _, _⟩) (v := ?vty17) rfl (by kernel_rfl) (by kernel_rfl) (by kernel_rfl) (fun _ _ _ h => hP _ _ _ _ (by rfl) h) (Or.inl ⟨by kernel_rfl, ?yty17⟩) (by assumption) ?rty17
    case yty17 =>
      intro w hSw
      try dsimp only at hSw
      obtain ⟨x0, x1, d1, e0, e1, e2, e3⟩ := hSw
      first | (go_simp; done) | (go_simp; with_reducible rfl)
    try simp only [Act.put, List.setIfInBounds_toArray, List.set_cons_zero, List.set_cons_succ]
    refine wpAnyH_take (i := 18) (oi := ⟨some 220, _, _, _, _, _⟩) (v := ?vty18) rfl (by kernel_rfl) (by kernel_rfl) (by kernel_rfl) (fun _ _ _ h => hP _ _ _ _ (by rfl) h) (Or.inl ⟨by kernel_rfl, ?yty18⟩) (by assumption) ?rty18
    case yty18 =>
      intro w hSw
      try dsimp only at hSw
      obtain ⟨x0, x1, d1, e0, e1, e2, e3⟩ := hSw
      first | (go_simp; done) | (go_simp; with_reducible rfl)
    try simp only [Act.put, List.setIfInBounds_toArray, List.set_cons_zero, List.set_cons_succ]
    refine wpAnyH_take (i := 19) (oi := ⟨some 221, _, _, _, _, _⟩) (v := ?vty19) rfl (by kernel_rfl) (by kernel_rfl) (by kernel_rfl) (fun _ _ _ h => hP _ _ _ _ (by rfl) h) (Or.inl ⟨by kernel_rfl, ?yty19⟩) (by assumption) ?rty19
    case yty19 =>
      intro w hSw
      try dsimp only at hSw
      obtain ⟨x0, x1, d1, e0, e1, e2, e3⟩ := hSw
      first | (go_simp; done) | (go_simp; with_reducible rfl)
    try simp only [Act.put, List.setIfInBounds_toArray, List.set_cons_zero, List.set_cons_succ]
    refine wpAnyH_take (i := 20) (oi := ⟨some 222, _, _, _, _, _⟩) (v := ?vty20) rfl (by kernel_rfl) (by kernel_rfl) (by kernel_rfl) (fun _ _ _ h => hP _ _ _ _ (by rfl) h) (Or.inl ⟨by kernel_rfl, ?yty20⟩) (by assumption) ?rty20
    case yty20 =>
      intro w hSw
      try dsimp only at hSw
      obtain ⟨x0, x1, d1, e0, e1, e2, e3⟩ := hSw
      first | (go_simp; done) | (go_simp; with_reducible rfl)
    try simp only [Act.put, List.setIfInBounds_toArray, List.set_cons_zero, List.set_cons_succ]
    refine wpAnyH_take (i := 21) (oi := ⟨some 223, _, _, _, _, _⟩) (v := ?vty21) rfl (by kernel_rfl) (by kernel_rfl) (by kernel_rfl) (fun _ _ _ h => hP _ _ _ _ (by rfl) h) (Or.inl ⟨by kernel_rfl, ?yty21⟩) (by assumption) ?rty21
    case yty21 =>
      intro w hSw
      try dsimp only at hSw
      obtain ⟨x0, x1, d1, e0, e1, e2, e3⟩ := hSw
      first | (go_simp; done) | (go_simp; with_reducible rfl)
    try simp only [Act.put, List.setIfInBounds_toArray, List.set_cons_zero, List.set_cons_succ]
    refine wpAnyH_take (i := 22) (oi := ⟨some 224, _, _, _, _, _⟩) (v := undef) rfl (by kernel_rfl) (by kernel_rfl) (by kernel_rfl) (fun _ _ _ h => hP _ _ _ _ (by rfl) h) (Or.inr ⟨by kernel_rfl, rfl⟩) (by assumption) ?rty22
    try simp only [Act.put, List.setIfInBounds_toArray, List.set_cons_zero, List.set_cons_succ]
    refine wpAnyH_take (i := 23) (oi := ⟨some 225, _, _, _, _, _⟩) (v := undef) rfl (by kernel_rfl) (by kernel_rfl) (by kernel_rfl) (fun _ _ _ h => hP _ _ _ _ (by rfl) h) (Or.inr ⟨by kernel_rfl, rfl⟩) (by assumption) ?rty23
    try simp only [Act.put, List.setIfInBounds_toArray, List.set_cons_zero, List.set_cons_succ]
    refine wpAnyH_take (i := 24) (oi := ⟨some 226, _, _, _, _, _⟩) (v := ?vty24) rfl (by kernel_rfl) (by kernel_rfl) (by kernel_rfl) (fun _ _ _ h => hP _ _ _ _ (by rfl) h) (Or.inl ⟨by kernel_rfl, ?yty24⟩) (by assumption) ?rty24
    case yty24 =>
      intro w hSw
      try dsimp only at hSw
      obtain ⟨x0, x1, d1, e0, e1, e2, e3⟩ := hSw
      first | (go_simp; done) | (go_simp; with_reducible rfl)
    try simp only [Act.put, List.setIfInBounds_toArray, List.set_cons_zero, List.set_cons_succ]
    refine wpAnyH_take (i := 25) (oi := ⟨some 227, _, _, _, _, _⟩) (v := ?vty25) rfl (by kernel_rfl) (by kernel_rfl) (by kernel_rfl) (fun _ _ _ h => hP _ _ _ _ (by rfl) h) (Or.inl ⟨by kernel_rfl, ?yty25⟩) (by assumption) ?rty25
    case yty25 =>
      intro w hSw
      try dsimp only at hSw
      obtain ⟨x0, x1, d1, e0, e1, e2, e3⟩ := hSw
      first | (go_simp; done) | (go_simp; with_reducible rfl)
    try simp only [Act.put, List.setIfInBounds_toArray, List.set_cons_zero, List.set_cons_succ]
    refine wpAnyH_done (by kernel_rfl) ?_ _
    go_wp2_with fail
    go_meet
    case rel => exact Lib.hid ⟨_, _, HB8.out⟩
  · have HTN := Lib.hid (term_no nn (by omega) HB6.out.1)
    obtain ⟨x0, x1, x2, x3⟩ := cells2 HB6.out.2.1
    have hE : ∀ w, (Go.binOp BinOp.neq 39 .nilIface .nilIface).run Try.prog w = .ok (.bool false) w := fun w => by kernel_rfl
    have hEG : ∀ w, (Go.eqGuard BinOp.neq 39 (.tmp 224) (.const .nilIface) .nilIface .nilIface).run Try.prog w = .ok () w := fun w => by kernel_rfl
    have HI : Hid (w6.cell? ⟨w2.heap.size, 0, none⟩ = some (.int .i64 room)) := Lib.hid x0
    by_cases hn0 : 0 ≤ nn
    · have t1 : decide (0 ≤ nn) = true := decide_eq_true hn0
      have t2 : decide (nn < (ts.length : Int)) = false := decide_eq_false (by omega)
      clear hn0 his
      go_wp2_with fail
      refine HTN.out.mono ?_
      rintro e w7 ⟨rfl, rfl⟩
      go_wp2_with fail
      clear x0 x1 x2 x3 c0 c1 c2 c3 c4 c5 c6 c7 c8 c9 c10 c11 c12 c13 c14 c15 c16
      refine wp_region_held_drew (S := (fun w' => w'.cell? ⟨w2.heap.size, 0, none⟩ = some (.int .i64 room))) (by kernel_rfl) ?hStna0 (fun hHeld => ?_)
      case hStna0 => exact HI.out
      refine wpAnyH_take (i := 0) (oi := ⟨some 202, _, _, _, _, _⟩) (v := ?vtna0) rfl (by kernel_rfl) (by kernel_rfl) (by kernel_rfl) (fun _ _ _ h => hP _ _ _ _ (by rfl) h) (Or.inl ⟨by kernel_rfl, ?ytna0⟩) (by assumption) ?rtna0
      case ytna0 =>
        intro w hSw
        try dsimp only at hSw
        first | (go_simp; done) | (go_simp; with_reducible rfl)
      try simp only [Act.put, List.setIfInBounds_toArray, List.set_cons_zero, List.set_cons_succ]
      refine wpAnyH_take (i := 1) (oi := ⟨some 203, _, _, _, _, _⟩) (v := ?vtna1) rfl (by kernel_rfl) (by kernel_rfl) (by kernel_rfl) (fun _ _ _ h => hP _ _ _ _ (by rfl) h) (Or.inl ⟨by kernel_rfl, ?ytna1⟩) (by assumption) ?rtna1
      case ytna1 =>
        intro w hSw
        try dsimp only at hSw
        first | (go_simp; done) | (go_simp; with_reducible rfl)
      try simp only [Act.put, List.setIfInBounds_toArray, List.set_cons_zero, List.set_cons_succ]
      refine wpAnyH_take (i := 2) (oi := ⟨some 204, _, _, _, _, _⟩) (v := ?vtna2) rfl (by kernel_rfl) (by kernel_rfl) (by kernel_rfl) (fun _ _ _ h => hP _ _ _ _ (by rfl) h) (Or.inl ⟨by kernel_rfl, ?ytna2⟩) (by assumption) ?rtna2
      case ytna2 =>
        intro w hSw
        try dsimp only at hSw
        first | (go_simp; done) | (go_simp; with_reducible rfl)
      try simp only [Act.put, List.setIfInBounds_toArray, List.set_cons_zero, List.set_cons_succ]
      refine wpAnyH_take (i := 3) (oi := ⟨some 205, _, _, _, _, _⟩) (v := ?vtna3) rfl (by kernel_rfl) (by kernel_rfl) (by kernel_rfl) (fun _ _ _ h => hP _ _ _ _ (by rfl) h) (Or.inl ⟨by kernel_rfl, ?ytna3⟩) (by assumption) ?rtna3
      case ytna3 =>
        intro w hSw
        try dsimp only at hSw
        first | (go_simp; done) | (go_simp; with_reducible rfl)
      try simp only [Act.put, List.setIfInBounds_toArray, List.set_cons_zero, List.set_cons_succ]
      refine wpAnyH_take (i := 4) (oi := ⟨some 206, _, _, _, _, _⟩) (v := ?vtna4) rfl (by kernel_rfl) (by kernel_rfl) (by kernel_rfl) (fun _ _ _ h => hP _ _ _ _ (by rfl) h) (Or.inl ⟨by kernel_rfl, ?ytna4⟩) (by assumption) ?rtna4
      case ytna4 =>
        intro w hSw
        try dsimp only at hSw
        first | (go_simp; done) | (go_simp; with_reducible rfl)
      try simp only [Act.put, List.setIfInBounds_toArray, List.set_cons_zero, List.set_cons_succ]
      refine wpAnyH_take (i := 5) (oi := ⟨some 207, _, _, _, _, _⟩) (v := ?vtna5) rfl (by kernel_rfl) (by kernel_rfl) (by kernel_rfl) (fun _ _ _ h => hP _ _ _ _ (by rfl) h) (Or.inl ⟨by kernel_rfl, ?ytna5⟩) (by assumption) ?rtna5
      case ytna5 =>
        intro w hSw
        try dsimp only at hSw
        first | (go_simp; done) | (go_simp; with_reducible rfl)
      try simp only [Act.put, List.setIfInBounds_toArray, List.set_cons_zero, List.set_cons_succ]
      refine wpAnyH_take (i := 6) (oi := ⟨some 208, _, _, _, _, _⟩) (v := ?vtna6) rfl (by kernel_rfl) (by kernel_rfl) (by kernel_rfl) (fun _ _ _ h => hP _ _ _ _ (by rfl) h) (Or.inl ⟨by kernel_rfl, ?ytna6⟩) (by assumption) ?rtna6
      case ytna6 =>
        intro w hSw
        try dsimp only at hSw
        first | (go_simp; done) | (go_simp; with_reducible rfl)
      try simp only [Act.put, List.setIfInBounds_toArray, List.set_cons_zero, List.set_cons_succ]
      refine wpAnyH_take (i := 7) (oi := ⟨some 209, _, _, _, _, _⟩) (v := undef) rfl (by kernel_rfl) (by kernel_rfl) (by kernel_rfl) (fun _ _ _ h => hP _ _ _ _ (by rfl) h) (Or.inr ⟨by kernel_rfl, rfl⟩) (by assumption) ?rtna7
      try simp only [Act.put, List.setIfInBounds_toArray, List.set_cons_zero, List.set_cons_succ]
      refine wpAnyH_take (i := 8) (oi := ⟨some 210, _, _, _, _, _⟩) (v := undef) rfl (by kernel_rfl) (by kernel_rfl) (by kernel_rfl) (fun _ _ _ h => hP _ _ _ _ (by rfl) h) (Or.inr ⟨by kernel_rfl, rfl⟩) (by assumption) ?rtna8
      try simp only [Act.put, List.setIfInBounds_toArray, List.set_cons_zero, List.set_cons_succ]
      refine wpAnyH_take (i := 9) (oi := ⟨some 211, _, _, _, _, _⟩) (v := undef) rfl (by kernel_rfl) (by kernel_rfl) (by kernel_rfl) (fun _ _ _ h => hP _ _ _ _ (by rfl) h) (Or.inr ⟨by kernel_rfl, rfl⟩) (by assumption) ?rtna9
      try simp only [Act.put, List.setIfInBounds_toArray, List.set_cons_zero, List.set_cons_succ]
      refine wpAnyH_take (i := 10) (oi := ⟨some 212, _, _, _, _, _⟩) (v := undef) rfl (by kernel_rfl) (by kernel_rfl) (by kernel_rfl) (fun _ _ _ h => hP _ _ _ _ (by rfl) h) (Or.inr ⟨by kernel_rfl, rfl⟩) (by assumption) ?rtna10
      try simp only [Act.put, List.setIfInBounds_toArray, List.set_cons_zero, List.set_cons_succ]
      refine wpAnyH_take (i := 11) (oi := ⟨some 213, _, _, _, _, _⟩) (v := undef) rfl (by kernel_rfl) (by kernel_rfl) (by kernel_rfl) (fun _ _ _ h => hP _ _ _ _ (by rfl) h) (Or.inr ⟨by kernel_rfl, rfl⟩) (by assumption) ?rtna11
      try simp only [Act.put, List.setIfInBounds_toArray, List.set_cons_zero, List.set_cons_succ]
      refine wpAnyH_take (i := 12) (oi := ⟨some 214, _, _, _, _, _⟩) (v := undef) rfl (by kernel_rfl) (by kernel_rfl) (by kernel_rfl) (fun _ _ _ h => hP _ _ _ _ (by rfl) h) (Or.inr ⟨by kernel_rfl, rfl⟩) (by assumption) ?rtna12
      try simp only [Act.put, List.setIfInBounds_toArray, List.set_cons_zero, List.set_cons_succ]
      refine wpAnyH_take (i := 13) (oi := ⟨some 215, _, _, _, _, _⟩) (v := undef) rfl (by kernel_rfl) (by kernel_rfl) (by kernel_rfl) (fun _ _ _ h => hP _ _ _ _ (by rfl) h) (Or.inr ⟨by kernel_rfl, rfl⟩) (by assumption) ?rtna13
      try simp only [Act.put, List.setIfInBounds_toArray, List.set_cons_zero, List.set_cons_succ]
      refine wpAnyH_take (i := 14) (oi := ⟨some 216, _, _, _, _, _⟩) (v := undef) rfl (by kernel_rfl) (by kernel_rfl) (by kernel_rfl) (fun _ _ _ h => hP _ _ _ _ (by rfl) h) (Or.inr ⟨by kernel_rfl, rfl⟩) (by assumption) ?rtna14
      try simp only [Act.put, List.setIfInBounds_toArray, List.set_cons_zero, List.set_cons_succ]
      refine wpAnyH_take (i := 15) (oi := ⟨some 217, _, _, _, _, _⟩) (v := undef) rfl (by kernel_rfl) (by kernel_rfl) (by kernel_rfl) (fun _ _ _ h => hP _ _ _ _ (by rfl) h) (Or.inr ⟨by kernel_rfl, rfl⟩) (by assumption) ?rtna15
      try simp only [Act.put, List.setIfInBounds_toArray, List.set_cons_zero, List.set_cons_succ]
      refine wpAnyH_take (i := 16) (oi := ⟨some 218, _, _, _, _, _⟩) (v := ?vtna16) rfl (by kernel_rfl) (by kernel_rfl) (by kernel_rfl) (fun _ _ _ h => hP _ _ _ _ (by rfl) h) (Or.inl ⟨by kernel_rfl, ?ytna16⟩) (by assumption) ?rtna16
      case ytna16 =>
        intro w hSw
        try dsimp only at hSw
        first | (go_simp; done) | (go_simp; with_reducible rfl)
      try simp only [Act.put, List.setIfInBounds_toArray, List.set_cons_zero, List.set_cons_succ]
      refine wpAnyH_take (i := 17) (oi := ⟨some 219, _, _, _, _, _⟩) (v := ?vtna17) rfl (by kernel_rfl) (by kernel_rfl) (by kernel_rfl) (fun _ _ _ h => hP _ _ _ _ (by rfl) h) (Or.inl ⟨by kernel_rfl, ?ytna17⟩) (by assumption) ?rtna17
      case ytna17 =>
        intro w hSw
        try dsimp only at hSw
        first | (go_simp; done) | (go_simp; with_reducible rfl)
      try simp only [Act.put, List.setIfInBounds_toArray, List.set_cons_zero, List.set_cons_succ]
      refine wpAnyH_take (i := 18) (oi := ⟨some 220, _, _, _, _, _⟩) (v := ?vtna18) rfl (by kernel_rfl) (by kernel_rfl) (by kernel_rfl) (fun _ _ _ h => hP _ _ _ _ (by rfl) h) (Or.inl ⟨by kernel_rfl, ?ytna18⟩) (by assumption) ?rtna18
      case ytna18 =>
        intro w hSw
        try dsimp only at hSw
        first | (go_simp; done) | (go_simp; with_reducible rfl)
      try simp only [Act.put, List.setIfInBounds_toArray, List.set_cons_zero, List.set_cons_succ]
      refine wpAnyH_take (i := 19) (oi := ⟨some 221, _, _, _, _, _⟩) (v := ?vtna19) rfl (by kernel_rfl) (by kernel_rfl) (by kernel_rfl) (fun _ _ _ h => hP _ _ _ _ (by rfl) h) (Or.inl ⟨by kernel_rfl, ?ytna19⟩) (by assumption) ?rtna19
      case ytna19 =>
        intro w hSw
        try dsimp only at hSw
        first | (go_simp; done) | (go_simp; with_reducible rfl)
      try simp only [Act.put, List.setIfInBounds_toArray, List.set_cons_zero, List.set_cons_succ]
      refine wpAnyH_take (i := 20) (oi := ⟨some 222, _, _, _, _, _⟩) (v := ?vtna20) rfl (by kernel_rfl) (by kernel_rfl) (by kernel_rfl) (fun _ _ _ h => hP _ _ _ _ (by rfl) h) (Or.inl ⟨by kernel_rfl, ?ytna20⟩) (by assumption) ?rtna20
      case ytna20 =>
        intro w hSw
        try dsimp only at hSw
        first | (go_simp; done) | (go_simp; with_reducible rfl)
      try simp only [Act.put, List.setIfInBounds_toArray, List.set_cons_zero, List.set_cons_succ]
      refine wpAnyH_take (i := 21) (oi := ⟨some 223, _, _, _, _, _⟩) (v := ?vtna21) rfl (by kernel_rfl) (by kernel_rfl) (by kernel_rfl) (fun _ _ _ h => hP _ _ _ _ (by rfl) h) (Or.inl ⟨by kernel_rfl, ?ytna21⟩) (by assumption) ?rtna21
      case ytna21 =>
        intro w hSw
        try dsimp only at hSw
        first | (go_simp; done) | (go_simp; with_reducible rfl)
      try simp only [Act.put, List.setIfInBounds_toArray, List.set_cons_zero, List.set_cons_succ]
      refine wpAnyH_take (i := 22) (oi := ⟨some 224, _, _, _, _, _⟩) (v := ?vtna22) rfl (by kernel_rfl) (by kernel_rfl) (by kernel_rfl) (fun _ _ _ h => hP _ _ _ _ (by rfl) h) (Or.inl ⟨by kernel_rfl, ?ytna22⟩) (by assumption) ?rtna22
      case ytna22 =>
        intro w hSw
        try dsimp only at hSw
        first | (go_simp; done) | (go_simp; with_reducible rfl)
      try simp only [Act.put, List.setIfInBounds_toArray, List.set_cons_zero, List.set_cons_succ]
      refine wpAnyH_take (i := 23) (oi := ⟨some 225, _, _, _, _, _⟩) (v := ?vtna23) rfl (by kernel_rfl) (by kernel_rfl) (by kernel_rfl) (fun _ _ _ h => hP _ _ _ _ (by rfl) h) (Or.inl ⟨by kernel_rfl, ?ytna23⟩) (by assumption) ?rtna23
      case ytna23 =>
        intro w hSw
        try dsimp only at hSw
        first | (go_simp; done) | (go_simp; with_reducible rfl)
      try simp only [Act.put, List.setIfInBounds_toArray, List.set_cons_zero, List.set_cons_succ]
      refine wpAnyH_take (i := 24) (oi := ⟨some 226, _, _, _, _, _⟩) (v := ?vtna24) rfl (by kernel_rfl) (by kernel_rfl) (by kernel_rfl) (fun _ _ _ h => hP _ _ _ _ (by rfl) h) (Or.inl ⟨by kernel_rfl, ?ytna24⟩) (by assumption) ?rtna24
      case ytna24 =>
        intro w hSw
        try dsimp only at hSw
        first | (go_simp; done) | (go_simp; with_reducible rfl)
      try simp only [Act.put, List.setIfInBounds_toArray, List.set_cons_zero, List.set_cons_succ]
      refine wpAnyH_take (i := 25) (oi := ⟨some 227, _, _, _, _, _⟩) (v := ?vtna25) rfl (by kernel_rfl) (by kernel_rfl) (by kernel_rfl) (fun _ _ _ h => hP _ _ _ _ (by rfl) h) (Or.inl ⟨by kernel_rfl, ?ytna25⟩) (by assumption) ?rtna25
      case ytna25 =>
        intro w hSw
        try dsimp only at hSw
        first | (go_simp; done) | (go_simp; with_reducible rfl)
      try simp only [Act.put, List.setIfInBounds_toArray, List.set_cons_zero, List.set_cons_succ]
      refine wpAnyH_done (by kernel_rfl) ?_ _
      have HB8 := Lib.hid (HB6.out.below (Below.refl _ w6).drew)
      go_wp2_with fail
      go_meet
      case rel => exact Lib.hid ⟨_, _, HB8.out⟩
    · have t1 : decide (0 ≤ nn) = false := decide_eq_false hn0
      clear hn0 his
      go_wp2_with fail
      refine HTN.out.mono ?_
      rintro e w7 ⟨rfl, rfl⟩
      go_wp2_with fail
      clear x0 x1 x2 x3 c0 c1 c2 c3 c4 c5 c6 c7 c8 c9 c10 c11 c12 c13 c14 c15 c16
      refine wp_region_held_drew (S := (fun w' => w'.cell? ⟨w2.heap.size, 0, none⟩ = some (.int .i64 room))) (by kernel_rfl) ?hStnb0 (fun hHeld => ?_)
      case hStnb0 => exact HI.out
      refine wpAnyH_take (i := 0) (oi := ⟨some 202, _, _, _, _, _⟩) (v := ?vtnb0) rfl (by kernel_rfl) (by kernel_rfl) (by kernel_rfl) (fun _ _ _ h => hP _ _ _ _ (by rfl) h) (Or.inl ⟨by kernel_rfl, ?ytnb0⟩) (by assumption) ?rtnb0
      case ytnb0 =>
        intro w hSw
        try dsimp only at hSw
        first | (go_simp; done) | (go_simp; with_reducible rfl)
      try simp only [Act.put, List.setIfInBounds_toArray, List.set_cons_zero, List.set_cons_succ]
      refine wpAnyH_take (i := 1) (oi := ⟨some 203, _, _, _, _, _⟩) (v := ?vtnb1) rfl (by kernel_rfl) (by kernel_rfl) (by kernel_rfl) (fun _ _ _ h => hP _ _ _ _ (by rfl) h) (Or.inl ⟨by kernel_rfl, ?ytnb1⟩) (by assumption) ?rtnb1
      case ytnb1 =>
        intro w hSw
        try dsimp only at hSw
        first | (go_simp; done) | (go_simp; with_reducible rfl)
      try simp only [Act.put, List.setIfInBounds_toArray, List.set_cons_zero, List.set_cons_succ]
      refine wpAnyH_take (i := 2) (oi := ⟨some 204, _, _, _, _, _⟩) (v := ?vtnb2) rfl (by kernel_rfl) (by kernel_rfl) (by kernel_rfl) (fun _ _ _ h => hP _ _ _ _ (by rfl) h) (Or.inl ⟨by kernel_rfl, ?ytnb2⟩) (by assumption) ?rtnb2
      case ytnb2 =>
        intro w hSw
        try dsimp only at hSw
        first | (go_simp; done) | (go_simp; with_reducible rfl)
      try simp only [Act.put, List.setIfInBounds_toArray, List.set_cons_zero, List.set_cons_succ]
      refine wpAnyH_take (i := 3) (oi := ⟨some 205, _, _, _, _, _⟩) (v := ?vtnb3) rfl (by kernel_rfl) (by kernel_rfl) (by kernel_rfl) (fun _ _ _ h => hP _ _ _ _ (by rfl) h) (Or.inl ⟨by kernel_rfl, ?ytnb3⟩) (by assumption) ?rtnb3
      case ytnb3 =>
        intro w hSw
        try dsimp only at hSw
        first | (go_simp; done) | (go_simp; with_reducible rfl)
      try simp only [Act.put, List.setIfInBounds_toArray, List.set_cons_zero, List.set_cons_succ]
      refine wpAnyH_take (i := 4) (oi := ⟨some 206, _, _, _, _, _⟩) (v := ?vtnb4) rfl (by kernel_rfl) (by kernel_rfl) (by kernel_rfl) (fun _ _ _ h => hP _ _ _ _ (by rfl) h) (Or.inl ⟨by kernel_rfl, ?ytnb4⟩) (by assumption) ?rtnb4
      case ytnb4 =>
        intro w hSw
        try dsimp only at hSw
        first | (go_simp; done) | (go_simp; with_reducible rfl)
      try simp only [Act.put, List.setIfInBounds_toArray, List.set_cons_zero, List.set_cons_succ]
      refine wpAnyH_take (i := 5) (oi := ⟨some 207, _, _, _, _, _⟩) (v := ?vtnb5) rfl (by kernel_rfl) (by kernel_rfl) (by kernel_rfl) (fun _ _ _ h => hP _ _ _ _ (by rfl) h) (Or.inl ⟨by kernel_rfl, ?ytnb5⟩) (by assumption) ?rtnb5
      case ytnb5 =>
        intro w hSw
        try dsimp only at hSw
        first | (go_simp; done) | (go_simp; with_reducible rfl)
      try simp only [Act.put, List.setIfInBounds_toArray, List.set_cons_zero, List.set_cons_succ]
      refine wpAnyH_take (i := 6) (oi := ⟨some 208, _, _, _, _, _⟩) (v := ?vtnb6) rfl (by kernel_rfl) (by kernel_rfl) (by kernel_rfl) (fun _ _ _ h => hP _ _ _ _ (by rfl) h) (Or.inl ⟨by kernel_rfl, ?ytnb6⟩) (by assumption) ?rtnb6
      case ytnb6 =>
        intro w hSw
        try dsimp only at hSw
        first | (go_simp; done) | (go_simp; with_reducible rfl)
      try simp only [Act.put, List.setIfInBounds_toArray, List.set_cons_zero, List.set_cons_succ]
      refine wpAnyH_take (i := 7) (oi := ⟨some 209, _, _, _, _, _⟩) (v := undef) rfl (by kernel_rfl) (by kernel_rfl) (by kernel_rfl) (fun _ _ _ h => hP _ _ _ _ (by rfl) h) (Or.inr ⟨by kernel_rfl, rfl⟩) (by assumption) ?rtnb7
      try simp only [Act.put, List.setIfInBounds_toArray, List.set_cons_zero, List.set_cons_succ]
      refine wpAnyH_take (i := 8) (oi := ⟨some 210, _, _, _, _, _⟩) (v := undef) rfl (by kernel_rfl) (by kernel_rfl) (by kernel_rfl) (fun _ _ _ h => hP _ _ _ _ (by rfl) h) (Or.inr ⟨by kernel_rfl, rfl⟩) (by assumption) ?rtnb8
      try simp only [Act.put, List.setIfInBounds_toArray, List.set_cons_zero, List.set_cons_succ]
      refine wpAnyH_take (i := 9) (oi := ⟨some 211, _, _, _, _, _⟩) (v := undef) rfl (by kernel_rfl) (by kernel_rfl) (by kernel_rfl) (fun _ _ _ h => hP _ _ _ _ (by rfl) h) (Or.inr ⟨by kernel_rfl, rfl⟩) (by assumption) ?rtnb9
      try simp only [Act.put, List.setIfInBounds_toArray, List.set_cons_zero, List.set_cons_succ]
      refine wpAnyH_take (i := 10) (oi := ⟨some 212, _, _, _, _, _⟩) (v := undef) rfl (by kernel_rfl) (by kernel_rfl) (by kernel_rfl) (fun _ _ _ h => hP _ _ _ _ (by rfl) h) (Or.inr ⟨by kernel_rfl, rfl⟩) (by assumption) ?rtnb10
      try simp only [Act.put, List.setIfInBounds_toArray, List.set_cons_zero, List.set_cons_succ]
      refine wpAnyH_take (i := 11) (oi := ⟨some 213, _, _, _, _, _⟩) (v := undef) rfl (by kernel_rfl) (by kernel_rfl) (by kernel_rfl) (fun _ _ _ h => hP _ _ _ _ (by rfl) h) (Or.inr ⟨by kernel_rfl, rfl⟩) (by assumption) ?rtnb11
      try simp only [Act.put, List.setIfInBounds_toArray, List.set_cons_zero, List.set_cons_succ]
      refine wpAnyH_take (i := 12) (oi := ⟨some 214, _, _, _, _, _⟩) (v := undef) rfl (by kernel_rfl) (by kernel_rfl) (by kernel_rfl) (fun _ _ _ h => hP _ _ _ _ (by rfl) h) (Or.inr ⟨by kernel_rfl, rfl⟩) (by assumption) ?rtnb12
      try simp only [Act.put, List.setIfInBounds_toArray, List.set_cons_zero, List.set_cons_succ]
      refine wpAnyH_take (i := 13) (oi := ⟨some 215, _, _, _, _, _⟩) (v := undef) rfl (by kernel_rfl) (by kernel_rfl) (by kernel_rfl) (fun _ _ _ h => hP _ _ _ _ (by rfl) h) (Or.inr ⟨by kernel_rfl, rfl⟩) (by assumption) ?rtnb13
      try simp only [Act.put, List.setIfInBounds_toArray, List.set_cons_zero, List.set_cons_succ]
      refine wpAnyH_take (i := 14) (oi := ⟨some 216, _, _, _, _, _⟩) (v := undef) rfl (by kernel_rfl) (by kernel_rfl) (by kernel_rfl) (fun _ _ _ h => hP _ _ _ _ (by rfl) h) (Or.inr ⟨by kernel_rfl, rfl⟩) (by assumption) ?rtnb14
      try simp only [Act.put, List.setIfInBounds_toArray, List.set_cons_zero, List.set_cons_succ]
      refine wpAnyH_take (i := 15) (oi := ⟨some 217, _, _, _, _, _⟩) (v := undef) rfl (by kernel_rfl) (by kernel_rfl) (by kernel_rfl) (fun _ _ _ h => hP _ _ _ _ (by rfl) h) (Or.inr ⟨by kernel_rfl, rfl⟩) (by assumption) ?rtnb15
      try simp only [Act.put, List.setIfInBounds_toArray, List.set_cons_zero, List.set_cons_succ]
      refine wpAnyH_take (i := 16) (oi := ⟨some 218, _, _, _, _, _⟩) (v := ?vtnb16) rfl (by kernel_rfl) (by kernel_rfl) (by kernel_rfl) (fun _ _ _ h => hP _ _ _ _ (by rfl) h) (Or.inl ⟨by kernel_rfl, ?ytnb16⟩) (by assumption) ?rtnb16
      case ytnb16 =>
        intro w hSw
        try dsimp only at hSw
        first | (go_simp; done) | (go_simp; with_reducible rfl)
      try simp only [Act.put, List.setIfInBounds_toArray, List.set_cons_zero, List.set_cons_succ]
      refine wpAnyH_take (i := 17) (oi := ⟨some 219, _, _, _, _, _⟩) (v := ?vtnb17) rfl (by kernel_rfl) (by kernel_rfl) (by kernel_rfl) (fun _ _ _ h => hP _ _ _ _ (by rfl) h) (Or.inl ⟨by kernel_rfl, ?ytnb17⟩) (by assumption) ?rtnb17
      case ytnb17 =>
        intro w hSw
        try dsimp only at hSw
        first | (go_simp; done) | (go_simp; with_reducible rfl)
      try simp only [Act.put, List.setIfInBounds_toArray, List.set_cons_zero, List.set_cons_succ]
      refine wpAnyH_take (i := 18) (oi := ⟨some 220, _, _, _, _, _⟩) (v := ?vtnb18) rfl (by kernel_rfl) (by kernel_rfl) (by kernel_rfl) (fun _ _ _ h => hP _ _ _ _ (by rfl) h) (Or.inl ⟨by kernel_rfl, ?ytnb18⟩) (by assumption) ?rtnb18
      case ytnb18 =>
        intro w hSw
        try dsimp only at hSw
        first | (go_simp; done) | (go_simp; with_reducible rfl)
      try simp only [Act.put, List.setIfInBounds_toArray, List.set_cons_zero, List.set_cons_succ]
      refine wpAnyH_take (i := 19) (oi := ⟨some 221, _, _, _, _, _⟩) (v := ?vtnb19) rfl (by kernel_rfl) (by kernel_rfl) (by kernel_rfl) (fun _ _ _ h => hP _ _ _ _ (by rfl) h) (Or.inl ⟨by kernel_rfl, ?ytnb19⟩) (by assumption) ?rtnb19
      case ytnb19 =>
        intro w hSw
        try dsimp only at hSw
        first | (go_simp; done) | (go_simp; with_reducible rfl)
      try simp only [Act.put, List.setIfInBounds_toArray, List.set_cons_zero, List.set_cons_succ]
      refine wpAnyH_take (i := 20) (oi := ⟨some 222, _, _, _, _, _⟩) (v := ?vtnb20) rfl (by kernel_rfl) (by kernel_rfl) (by kernel_rfl) (fun _ _ _ h => hP _ _ _ _ (by rfl) h) (Or.inl ⟨by kernel_rfl, ?ytnb20⟩) (by assumption) ?rtnb20
      case ytnb20 =>
        intro w hSw
        try dsimp only at hSw
        first | (go_simp; done) | (go_simp; with_reducible rfl)
      try simp only [Act.put, List.setIfInBounds_toArray, List.set_cons_zero, List.set_cons_succ]
      refine wpAnyH_take (i := 21) (oi := ⟨some 223, _, _, _, _, _⟩) (v := ?vtnb21) rfl (by kernel_rfl) (by kernel_rfl) (by kernel_rfl) (fun _ _ _ h => hP _ _ _ _ (by rfl) h) (Or.inl ⟨by kernel_rfl, ?ytnb21⟩) (by assumption) ?rtnb21
      case ytnb21 =>
        intro w hSw
        try dsimp only at hSw
        first | (go_simp; done) | (go_simp; with_reducible rfl)
      try simp only [Act.put, List.setIfInBounds_toArray, List.set_cons_zero, List.set_cons_succ]
      refine wpAnyH_take (i := 22) (oi := ⟨some 224, _, _, _, _, _⟩) (v := ?vtnb22) rfl (by kernel_rfl) (by kernel_rfl) (by kernel_rfl) (fun _ _ _ h => hP _ _ _ _ (by rfl) h) (Or.inl ⟨by kernel_rfl, ?ytnb22⟩) (by assumption) ?rtnb22
      case ytnb22 =>
        intro w hSw
        try dsimp only at hSw
        first | (go_simp; done) | (go_simp; with_reducible rfl)
      try simp only [Act.put, List.setIfInBounds_toArray, List.set_cons_zero, List.set_cons_succ]
      refine wpAnyH_take (i := 23) (oi := ⟨some 225, _, _, _, _, _⟩) (v := ?vtnb23) rfl (by kernel_rfl) (by kernel_rfl) (by kernel_rfl) (fun _ _ _ h => hP _ _ _ _ (by rfl) h) (Or.inl ⟨by kernel_rfl, ?ytnb23⟩) (by assumption) ?rtnb23
      case ytnb23 =>
        intro w hSw
        try dsimp only at hSw
        first | (go_simp; done) | (go_simp; with_reducible rfl)
      try simp only [Act.put, List.setIfInBounds_toArray, List.set_cons_zero, List.set_cons_succ]
      refine wpAnyH_take (i := 24) (oi := ⟨some 226, _, _, _, _, _⟩) (v := ?vtnb24) rfl (by kernel_rfl) (by kernel_rfl) (by kernel_rfl) (fun _ _ _ h => hP _ _ _ _ (by rfl) h) (Or.inl ⟨by kernel_rfl, ?ytnb24⟩) (by assumption) ?rtnb24
      case ytnb24 =>
        intro w hSw
        try dsimp only at hSw
        first | (go_simp; done) | (go_simp; with_reducible rfl)
      try simp only [Act.put, List.setIfInBounds_toArray, List.set_cons_zero, List.set_cons_succ]
      refine wpAnyH_take (i := 25) (oi := ⟨some 227, _, _, _, _, _⟩) (v := ?vtnb25) rfl (by kernel_rfl) (by kernel_rfl) (by kernel_rfl) (fun _ _ _ h => hP _ _ _ _ (by rfl) h) (Or.inl ⟨by kernel_rfl, ?ytnb25⟩) (by assumption) ?rtnb25
      case ytnb25 =>
        intro w hSw
        try dsimp only at hSw
        first | (go_simp; done) | (go_simp; with_reducible rfl)
      try simp only [Act.put, List.setIfInBounds_toArray, List.set_cons_zero, List.set_cons_succ]
      refine wpAnyH_done (by kernel_rfl) ?_ _
      have HB8 := Lib.hid (HB6.out.below (Below.refl _ w6).drew)
      go_wp2_with fail
      go_meet
      case rel => exact Lib.hid ⟨_, _, HB8.out⟩
end Go.Proofs.Ytghimladdioajaa
namespace Go.Proofs.Ytghimladdioajaa
open Go Go.RowKit
set_option linter.unusedVariables false
set_option linter.unusedSimpArgs false
set_option maxRecDepth 100000
set_option maxHeartbeats 12800000 in
theorem plays_arm4 {G : Tm → Bool} (HG : Hid (GoodFn G)) {w w2 wr w6 : World} (HM : Hid (MaxV w)) {p m q : Nat} {room : Int} (HRO : Hid (1 ≤ room ∧ room ≤ 65536)) {av : Option Addr} {cv : Nat} {ts : List Tm} (HB6 : Hid (BothV G w p m w2.heap.size room (.slice av ts.length cv) ts w6)) {kd nn k1 : Int} {s1 t1 l1 : ByteArray} {k2 : Int} {s2 t2 l2 : ByteArray} {k3 : Int} {s3 t3 l3 : ByteArray} {ka kb kc kx1 : Int} {xs1 xt1 xl1 : ByteArray} {kx2 : Int} {xs2 xt2 xl2 : ByteArray} {kx3 : Int} {xs3 xt3 xl3 : ByteArray} (HX6 : Hid (w6.heap[wr.heap.size]? = some (.cells #[.int .u8 kd, .int .i64 nn, .int .i64 k1, .string s1, .string t1, .string l1, .int .i64 k2, .string s2, .string t2, .string l2, .int .i64 k3, .string s3, .string t3, .string l3, .int .i64 ka, .int .i64 kb, .int .i64 kc] 67 (0, 0)))) (HT6 : Hid (w6.heap[q]? = some (.cells #[.int .i64 kx1, .string xs1, .string xt1, .string xl1, .int .i64 kx2, .string xs2, .string xt2, .string xl2, .int .i64 kx3, .string xs3, .string xt3, .string xl3] 51 (0, 0)))) {X1 X2 X3 : Tm} (HSK : Hid ((Small X1 ∧ Small X2 ∧ Small X3) ∧ KeyT X1 ∧ KeyT X2 ∧ KeyT X3)) (HV : Hid (kx1 = kindV X1 ∧ xs1 = text0 X1 ∧ xt1 = text1 X1 ∧ xl1 = text2 X1 ∧ kx2 = kindV X2 ∧ xs2 = text0 X2 ∧ xt2 = text1 X2 ∧ xl2 = text2 X2 ∧ kx3 = kindV X3 ∧ xs3 = text0 X3 ∧ xt3 = text1 X3 ∧ xl3 = text2 X3)) {xv : Value} (HXV : Hid (xv = tmV X3)) (HKD : Hid (0 ≤ kd ∧ kd ≤ 255)) (hkm : kd % 7 = 4)
    {sl0 sl1 sl2 sl3 sl4 sl6 sl8 sl12 sl13 sl14 sl15 sl16 sl17 sl18 sl19 sl20 sl21 sl22 sl23 sl24 sl25 sl26 sl27 sl28 sl29 sl30 sl31 sl32 sl33 sl34 sl35 sl36 sl37 sl38 sl39 sl40 sl41 sl42 sl43 sl44 sl45 sl46 sl47 sl48 sl49 sl50 sl51 sl52 sl53 sl54 sl55 sl56 sl57 sl58 sl59 sl60 sl61 sl62 sl63 sl64 sl65 sl66 sl67 sl68 sl69 sl70 sl71 sl72 sl73 sl74 sl75 sl76 sl77 sl78 sl79 sl80 sl81 sl82 sl83 sl84 sl85 sl86 sl87 sl88 sl89 sl90 sl91 sl92 sl93 sl94 sl95 sl96 sl97 sl98 sl99 sl100 sl101 sl102 sl103 sl104 sl105 sl106 sl107 sl108 sl109 sl111 sl112 sl113 sl114 sl115 sl116 sl117 sl118 sl119 sl120 sl121 sl122 sl123 sl124 sl125 sl126 sl127 sl128 sl129 sl130 sl131 sl132 sl133 sl134 sl135 sl136 sl137 sl138 sl139 sl140 sl141 sl142 sl143 sl144 sl145 sl146 sl147 sl148 sl149 sl150 sl151 sl152 sl153 sl154 sl155 sl156 sl157 sl158 sl159 sl160 sl161 sl162 sl163 sl164 sl165 sl166 sl167 sl168 sl169 sl170 sl171 sl172 sl173 sl174 sl175 sl176 sl177 sl178 sl179 sl180 sl181 sl182 sl183 sl184 sl185 sl186 sl187 sl188 sl189 sl190 sl191 sl192 sl193 sl194 sl195 sl196 sl197 sl198 sl199 sl200 sl201 sl202 sl203 sl204 sl205 sl206 sl207 sl208 sl209 sl210 sl211 sl212 sl213 sl214 sl215 sl216 sl217 sl218 sl219 sl220 sl221 sl222 sl223 sl224 sl225 sl226 sl227 sl228 sl229 sl230 sl231 sl232 sl233 sl234 sl235 sl236 sl237 sl238 sl239 sl240 sl241 sl242 sl243 sl244 sl245 sl246 sl247 sl248 sl249 sl250 sl251 sl252 sl253 sl254 sl255 sl256 sl257 sl258 sl259 sl260 sl261 sl262 sl263 sl264 sl265 sl266 sl267 sl268 sl269 sl270 sl271 sl272 sl273 sl274 sl275 sl276 sl277 sl278 sl279 sl280 sl281 sl282 sl283 sl284 sl285 sl286 sl287 sl288 sl289 sl290 sl291 sl292 sl293 sl294 sl295 sl296 sl297 sl298 sl299 sl300 sl301 sl302 sl303 sl304 sl305 sl306 sl307 : Value} (J K' : Act → World → Prop) (Q' : Exit → Act → World → Prop) (hP : ∀ c (a a' : Act) w, a.defers = a'.defers → Q' (.panic c) a w → Q' (.panic c) a' w) (h1 : ∀ a' w', (∃ ul4 ul12 ul13 ul14 ul15 ul16 ul17 ul18 ul19 ul20 ul21 ul22 ul23 ul24 ul25 ul26 ul27 ul28 ul29 ul30 ul31 ul32 ul33 ul111 ul112 ul113 ul114 ul115 ul116 ul117 ul118 ul119 ul120 ul121 ul122 ul123 ul124 ul125 ul126 ul127 ul128 ul129 ul130 ul131 ul132 ul133 ul134 ul135 ul136 ul137 ul138 ul139 ul140 ul141 ul142 ul143 ul144 ul145 ul146 ul147 ul148 ul149 ul150 ul151 ul152 ul153 ul154 ul155 ul156 ul157 ul158 ul159 ul160 ul161 ul162 ul163 ul164 ul165 ul166 ul167 ul168 ul169 ul170 ul171 ul172 ul173 ul174 ul175 ul176 ul177 ul178 ul179 ul180 ul181 ul182 ul183 ul184 ul185 ul186 ul187 ul188 ul189 ul190 ul191 ul192 ul193 ul194 ul195 ul196 ul197 ul198 ul199 ul200 ul201 ul202 ul203 ul204 ul205 ul206 ul207 ul208 ul209 ul210 ul211 ul212 ul213 ul214 ul215 ul216 ul217 ul218 ul219 ul220 ul221 ul222 ul223 ul224 ul225 ul226 ul227 ul228 ul229 ul230 ul231 ul232 ul233 ul234 ul235 ul236 ul237 ul238 ul239 ul240 ul241 ul242 ul243 ul244 ul245 ul246 ul247 ul248 ul249 ul250 ul251 ul252 ul253 ul254 ul255 ul256 ul257 ul258 ul259 ul260 ul261 ul262 ul263 ul264 ul265 ul266 ul267 ul268 ul269 ul270 ul271 ul272 ul273 ul274 ul275 ul276 ul277 ul278 ul279 ul280 ul281 ul282 ul283 ul284 ul285 ul286 ul287 ul288 ul289 ul290 ul291 ul292 ul293 ul294 ul295 ul296 ul297 ul298 ul299 ul300 ul301 ul302 : Value, Hid (∃ ts' V', BothV G w p m w2.heap.size room V' ts' w') ∧ a' = ⟨(sl0 :: sl1 :: sl2 :: sl3 :: ul4 :: .pointer (some ⟨p, 0, none⟩) :: sl6 :: .pointer (some ⟨w2.heap.size, 0, none⟩) :: sl8 :: .pointer (some ⟨wr.heap.size, 0, none⟩) :: .pointer (some ⟨q, 0, none⟩) :: xv :: ul12 :: ul13 :: ul14 :: ul15 :: ul16 :: ul17 :: ul18 :: ul19 :: ul20 :: ul21 :: ul22 :: ul23 :: ul24 :: ul25 :: ul26 :: ul27 :: ul28 :: ul29 :: ul30 :: ul31 :: ul32 :: ul33 :: sl34 :: sl35 :: sl36 :: sl37 :: sl38 :: sl39 :: sl40 :: sl41 :: sl42 :: sl43 :: sl44 :: sl45 :: sl46 :: sl47 :: sl48 :: sl49 :: sl50 :: sl51 :: sl52 :: sl53 :: sl54 :: sl55 :: sl56 :: sl57 :: sl58 :: sl59 :: sl60 :: sl61 :: sl62 :: sl63 :: sl64 :: sl65 :: sl66 :: sl67 :: sl68 :: sl69 :: sl70 :: sl71 :: sl72 :: sl73 :: sl74 :: sl75 :: sl76 :: sl77 :: sl78 :: sl79 :: sl80 :: sl81 :: sl82 :: sl83 :: sl84 :: sl85 :: sl86 :: sl87 :: sl88 :: sl89 :: sl90 :: sl91 :: sl92 :: sl93 :: sl94 :: sl95 :: sl96 :: sl97 :: sl98 :: sl99 :: sl100 :: sl101 :: sl102 :: sl103 :: sl104 :: sl105 :: sl106 :: sl107 :: sl108 :: sl109 :: .int .u8 (kd % 7) :: ul111 :: ul112 :: ul113 :: ul114 :: ul115 :: ul116 :: ul117 :: ul118 :: ul119 :: ul120 :: ul121 :: ul122 :: ul123 :: ul124 :: ul125 :: ul126 :: ul127 :: ul128 :: ul129 :: ul130 :: ul131 :: ul132 :: ul133 :: ul134 :: ul135 :: ul136 :: ul137 :: ul138 :: ul139 :: ul140 :: ul141 :: ul142 :: ul143 :: ul144 :: ul145 :: ul146 :: ul147 :: ul148 :: ul149 :: ul150 :: ul151 :: ul152 :: ul153 :: ul154 :: ul155 :: ul156 :: ul157 :: ul158 :: ul159 :: ul160 :: ul161 :: ul162 :: ul163 :: ul164 :: ul165 :: ul166 :: ul167 :: ul168 :: ul169 :: ul170 :: ul171 :: ul172 :: ul173 :: ul174 :: ul175 :: ul176 :: ul177 :: ul178 :: ul179 :: ul180 :: ul181 :: ul182 :: ul183 :: ul184 :: ul185 :: ul186 :: ul187 :: ul188 :: ul189 :: ul190 :: ul191 :: ul192 :: ul193 :: ul194 :: ul195 :: ul196 :: ul197 :: ul198 :: ul199 :: ul200 :: ul201 :: ul202 :: ul203 :: ul204 :: ul205 :: ul206 :: ul207 :: ul208 :: ul209 :: ul210 :: ul211 :: ul212 :: ul213 :: ul214 :: ul215 :: ul216 :: ul217 :: ul218 :: ul219 :: ul220 :: ul221 :: ul222 :: ul223 :: ul224 :: ul225 :: ul226 :: ul227 :: ul228 :: ul229 :: ul230 :: ul231 :: ul232 :: ul233 :: ul234 :: ul235 :: ul236 :: ul237 :: ul238 :: ul239 :: ul240 :: ul241 :: ul242 :: ul243 :: ul244 :: ul245 :: ul246 :: ul247 :: ul248 :: ul249 :: ul250 :: ul251 :: ul252 :: ul253 :: ul254 :: ul255 :: ul256 :: ul257 :: ul258 :: ul259 :: ul260 :: ul261 :: ul262 :: ul263 :: ul264 :: ul265 :: ul266 :: ul267 :: ul268 :: ul269 :: ul270 :: ul271 :: ul272 :: ul273 :: ul274 :: ul275 :: ul276 :: ul277 :: ul278 :: ul279 :: ul280 :: ul281 :: ul282 :: ul283 :: ul284 :: ul285 :: ul286 :: ul287 :: ul288 :: ul289 :: ul290 :: ul291 :: ul292 :: ul293 :: ul294 :: ul295 :: ul296 :: ul297 :: ul298 :: ul299 :: ul300 :: ul301 :: ul302 :: sl303 :: sl304 :: sl305 :: sl306 :: sl307 :: []).toArray, []⟩) → J a' w') (h2 : ∀ a' w', Met J a' w' → K' a' w') :
    Code.wp Try.prog ((Try.f6.body.bind (findC (isBlk 2))).getD .skip) (Exit.then K' Q') ⟨(sl0 :: sl1 :: sl2 :: sl3 :: sl4 :: .pointer (some ⟨p, 0, none⟩) :: sl6 :: .pointer (some ⟨w2.heap.size, 0, none⟩) :: sl8 :: .pointer (some ⟨wr.heap.size, 0, none⟩) :: .pointer (some ⟨q, 0, none⟩) :: xv :: sl12 :: sl13 :: sl14 :: sl15 :: sl16 :: sl17 :: sl18 :: sl19 :: sl20 :: sl21 :: sl22 :: sl23 :: sl24 :: sl25 :: sl26 :: sl27 :: sl28 :: sl29 :: sl30 :: sl31 :: sl32 :: sl33 :: sl34 :: sl35 :: sl36 :: sl37 :: sl38 :: sl39 :: sl40 :: sl41 :: sl42 :: sl43 :: sl44 :: sl45 :: sl46 :: sl47 :: sl48 :: sl49 :: sl50 :: sl51 :: sl52 :: sl53 :: sl54 :: sl55 :: sl56 :: sl57 :: sl58 :: sl59 :: sl60 :: sl61 :: sl62 :: sl63 :: sl64 :: sl65 :: sl66 :: sl67 :: sl68 :: sl69 :: sl70 :: sl71 :: sl72 :: sl73 :: sl74 :: sl75 :: sl76 :: sl77 :: sl78 :: sl79 :: sl80 :: sl81 :: sl82 :: sl83 :: sl84 :: sl85 :: sl86 :: sl87 :: sl88 :: sl89 :: sl90 :: sl91 :: sl92 :: sl93 :: sl94 :: sl95 :: sl96 :: sl97 :: sl98 :: sl99 :: sl100 :: sl101 :: sl102 :: sl103 :: sl104 :: sl105 :: sl106 :: sl107 :: sl108 :: sl109 :: .int .u8 (kd % 7) :: sl111 :: sl112 :: sl113 :: sl114 :: sl115 :: sl116 :: sl117 :: sl118 :: sl119 :: sl120 :: sl121 :: sl122 :: sl123 :: sl124 :: sl125 :: sl126 :: sl127 :: sl128 :: sl129 :: sl130 :: sl131 :: sl132 :: sl133 :: sl134 :: sl135 :: sl136 :: sl137 :: sl138 :: sl139 :: sl140 :: sl141 :: sl142 :: sl143 :: sl144 :: sl145 :: sl146 :: sl147 :: sl148 :: sl149 :: sl150 :: sl151 :: sl152 :: sl153 :: sl154 :: sl155 :: sl156 :: sl157 :: sl158 :: sl159 :: sl160 :: sl161 :: sl162 :: sl163 :: sl164 :: sl165 :: sl166 :: sl167 :: sl168 :: sl169 :: sl170 :: sl171 :: sl172 :: sl173 :: sl174 :: sl175 :: sl176 :: sl177 :: sl178 :: sl179 :: sl180 :: sl181 :: sl182 :: sl183 :: sl184 :: sl185 :: sl186 :: sl187 :: sl188 :: sl189 :: sl190 :: sl191 :: sl192 :: sl193 :: sl194 :: sl195 :: sl196 :: sl197 :: sl198 :: sl199 :: sl200 :: sl201 :: sl202 :: sl203 :: sl204 :: sl205 :: sl206 :: sl207 :: sl208 :: sl209 :: sl210 :: sl211 :: sl212 :: sl213 :: sl214 :: sl215 :: sl216 :: sl217 :: sl218 :: sl219 :: sl220 :: sl221 :: sl222 :: sl223 :: sl224 :: sl225 :: sl226 :: sl227 :: sl228 :: sl229 :: sl230 :: sl231 :: sl232 :: sl233 :: sl234 :: sl235 :: sl236 :: sl237 :: sl238 :: sl239 :: sl240 :: sl241 :: sl242 :: sl243 :: sl244 :: sl245 :: sl246 :: sl247 :: sl248 :: sl249 :: sl250 :: sl251 :: sl252 :: sl253 :: sl254 :: sl255 :: sl256 :: sl257 :: sl258 :: sl259 :: sl260 :: sl261 :: sl262 :: sl263 :: sl264 :: sl265 :: sl266 :: sl267 :: sl268 :: sl269 :: sl270 :: sl271 :: sl272 :: sl273 :: sl274 :: sl275 :: sl276 :: sl277 :: sl278 :: sl279 :: sl280 :: sl281 :: sl282 :: sl283 :: sl284 :: sl285 :: sl286 :: sl287 :: sl288 :: sl289 :: sl290 :: sl291 :: sl292 :: sl293 :: sl294 :: sl295 :: sl296 :: sl297 :: sl298 :: sl299 :: sl300 :: sl301 :: sl302 :: sl303 :: sl304 :: sl305 :: sl306 :: sl307 :: []).toArray, []⟩ w6 := by
  conv => arg 2; whnf
  have hk0 := HKD.out.1
  have hk1 := HKD.out.2
  have hq0 : (kd % 7 == 0) = false := by simp; omega
  have hq1 : (kd % 7 == 1) = false := by simp; omega
  have hq2 : (kd % 7 == 2) = false := by simp; omega
  have hq3 : (kd % 7 == 3) = false := by simp; omega
  have hq4 : (kd % 7 == 4) = true := by simp; omega
  clear hkm
  obtain ⟨c0, c1, c2, c3, c4, c5, c6, c7, c8, c9, c10, c11, c12, c13, c14, c15, c16⟩ := cells17 HX6.out
  obtain ⟨n0, n1, n2, n3, n4, n5, n6, n7, n8, n9, n10, n11⟩ := cells12 HT6.out
  have hl65 : ts.length ≤ 65536 := by obtain ⟨_, _, _, _, _, _, _, _, _, _, h8⟩ := HB6.out.1; exact h8
  clear n0 n1 n2 n3 n4 n5 n6 n7 n8 n9 n10 n11
  have HKZ : Hid (KeyTri ⟨X1, X2, X3⟩ ∧ SmallTri ⟨X1, X2, X3⟩) := Lib.hid ⟨HSK.out.2, HSK.out.1⟩
  have HRK := Lib.hid (fun w1 (h1 : DocRow w1 0 (.slice av ts.length cv) ts) => rkey_any HG.out room _ ts ⟨X1, X2, X3⟩ w1 h1 HKZ.out.1 HKZ.out.2 HB6.out.2.2.2.1.key (by omega))
  have HKA := Lib.hid (fun w1 (hb : Below w.heap.size w w1) (hd : DcAt w.heap.size p m ts room w1) => key_any HG.out ⟨X1, X2, X3⟩ HKZ.out.1 HKZ.out.2 HM.out hb hd HB6.out.2.2.2.2.1 HRO.out.2)
  have HRE3 := Lib.hid (fun w => real3_any ⟨X1, X2, X3⟩ HKZ.out.1 w)
  obtain ⟨ts', ⟨n0, n1, n2⟩, C, hkey⟩ : ∃ ts' n C, keyT G room ts ⟨X1, X2, X3⟩ = (ts', n, C) := ⟨_, _, _, rfl⟩
  have HF' : Hid (Fine G ts') := Lib.hid (by have := fine_key (room := room) HB6.out.2.2.2.1 HKZ.out.1 HKZ.out.2; rw [hkey] at this; exact this)
  unfold RKeyEnd at HRK
  unfold KeyEnd at HKA
  rw [hkey] at HRK HKA
  dsimp only at HRK HKA
  unfold rtriV at HRK HRE3
  unfold triV at HKA HRE3
  dsimp only at HRK HKA HRE3
  rw [← HV.out.1, ← HV.out.2.1, ← HV.out.2.2.1, ← HV.out.2.2.2.1, ← HV.out.2.2.2.2.1, ← HV.out.2.2.2.2.2.1, ← HV.out.2.2.2.2.2.2.1, ← HV.out.2.2.2.2.2.2.2.1, ← HV.out.2.2.2.2.2.2.2.2.1, ← HV.out.2.2.2.2.2.2.2.2.2.1, ← HV.out.2.2.2.2.2.2.2.2.2.2.1, ← HV.out.2.2.2.2.2.2.2.2.2.2.2] at HRK HRE3
  clear hl65 hkey
  obtain ⟨y1, hy1⟩ : ∃ v, v = tmV X1 := ⟨_, rfl⟩
  obtain ⟨y2, hy2⟩ : ∃ v, v = tmV X2 := ⟨_, rfl⟩
  obtain ⟨y3, hy3⟩ : ∃ v, v = tmV X3 := ⟨_, rfl⟩
  rw [← hy1, ← hy2, ← hy3] at HKA HRE3
  clear hy1 hy2 hy3
  obtain ⟨x0, x1, x2, x3⟩ := cells2 HB6.out.2.1
  obtain ⟨m0, m1, m2, m3, m4, m5, m6, m7, m8, m9, m10, m11⟩ := cells12 HT6.out
  go_wp2_with fail
  refine (HRK.out _ HB6.out.2.2.1).mono ?_
  rintro e w7 ⟨V', rfl, hr7, hb7⟩
  obtain ⟨av', cv', rfl⟩ := hr7.form
  have HB7 := Lib.hid (((HB6.out.below hb7).alloc (.cells #[.int .i64 room, .slice av' ts'.length cv'] 29)).alloc (.cells #[.int .i64 n0, .int .i64 n1, .int .i64 n2] 53))
  have HR7 := Lib.hid ((hr7.below ((Below.refl _ _).alloc (Nat.le_refl _) (.cells #[.int .i64 room, .slice av' ts'.length cv'] 29))).below ((Below.refl _ _).alloc (Nat.le_refl _) (.cells #[.int .i64 n0, .int .i64 n1, .int .i64 n2] 53)))
  have HN7 := Lib.hid (box_alloc (o' := .cells #[.int .i64 n0, .int .i64 n1, .int .i64 n2] 53) (box_new w7 #[.int .i64 room, .slice av' ts'.length cv'] 29))
  have HK7 : Hid (((w7.alloc (.cells #[.int .i64 room, .slice av' ts'.length cv'] 29)).alloc (.cells #[.int .i64 n0, .int .i64 n1, .int .i64 n2] 53)).heap[w7.heap.size + 1]? = some (.cells #[.int .i64 n0, .int .i64 n1, .int .i64 n2] 53 (0, 0))) := Lib.hid (by
    have h := box_new (w7.alloc (.cells #[.int .i64 room, .slice av' ts'.length cv'] 29)) #[.int .i64 n0, .int .i64 n1, .int .i64 n2] 53
    rwa [show (w7.alloc (.cells #[.int .i64 room, .slice av' ts'.length cv'] 29)).heap.size = w7.heap.size + 1 from by simp] at h)
  have HT7 := Lib.hid (box_alloc (o' := .cells #[.int .i64 n0, .int .i64 n1, .int .i64 n2] 53) (box_alloc (o' := .cells #[.int .i64 room, .slice av' ts'.length cv'] 29) (box_below HT6.out hb7)))
  clear hb7 hr7 x0 x1 x2 x3 c0 c1 c2 c3 c4 c5 c6 c7 c8 c9 c10 c11 c12 c13 c14 c15 c16 m0 m1 m2 m3 m4 m5 m6 m7 m8 m9 m10 m11
  obtain ⟨m0, m1, m2, m3, m4, m5, m6, m7, m8, m9, m10, m11⟩ := cells12 HT7.out
  go_wp2_with fail
  refine (HRE3.out _).mono ?_
  rintro e w8 ⟨rfl, hb8⟩
  have HB8 := Lib.hid (HB7.out.below hb8)
  have HR8 := Lib.hid (HR7.out.below hb8)
  have HN8 := Lib.hid (box_below HN7.out hb8)
  have HK8 := Lib.hid (box_below HK7.out hb8)
  clear hb8 m0 m1 m2 m3 m4 m5 m6 m7 m8 m9 m10 m11
  go_wp2_with fail
  refine (HKA.out _ HB8.out.bel HB8.out.1).mono ?_
  rintro e w9 ⟨rfl, hd9, hk9, hdist9⟩
  have ha9 : Below w9.heap.size w9 (w9.alloc (.cells #[.int .i64 n0, .int .i64 n1, .int .i64 n2] 54)) := (Below.refl _ _).alloc (Nat.le_refl _) _
  have hs9 : w.heap.size ≤ w9.heap.size := Nat.le_trans HB8.out.bel.size hk9.1.size
  have HX9 := Lib.hid ((HB8.out.next HR8.out HF'.out hd9 hk9 hdist9).alloc (.cells #[.int .i64 n0, .int .i64 n1, .int .i64 n2] 54))
  have QK := eq_key n0 n1 n2
  have bn := HB8.out.1.box hk9 HN8.out (by decide) (by decide)
  have bk := HB8.out.1.box hk9 HK8.out (by decide) (by decide)
  have bm := HB8.out.1.box hk9 HB8.out.2.1 (by decide) (by decide)
  have ln := lt_heap bn
  have lk := lt_heap bk
  have lm := lt_heap bm
  obtain ⟨z0, z1, z2, z3⟩ := cells2 (box_alloc (o' := .cells #[.int .i64 n0, .int .i64 n1, .int .i64 n2] 54) bn)
  obtain ⟨x0, x1, x2, x3⟩ := cells2 (box_alloc (o' := .cells #[.int .i64 n0, .int .i64 n1, .int .i64 n2] 54) bm)
  obtain ⟨v0, v1, v2, v3⟩ := cells2 bm
  obtain ⟨v4, v5, v6, v7⟩ := cells2 bn
  obtain ⟨v8, v9, v10, v11⟩ := cells3 bk
  obtain ⟨u0, u1, u2, u3⟩ := cells3 (box_alloc (o' := .cells #[.int .i64 n0, .int .i64 n1, .int .i64 n2] 54) bk)
  clear hd9 hk9 hdist9 ha9 hs9 bn bk bm
  go_wp2_with fail
  go_meet
  case rel => exact Lib.hid ⟨_, _, HX9.out⟩
end Go.Proofs.Ytghimladdioajaa
namespace Go.Proofs.Ytghimladdioajaa
open Go Go.RowKit
set_option linter.unusedVariables false
set_option linter.unusedSimpArgs false
set_option maxRecDepth 100000
set_option maxHeartbeats 12800000 in
theorem plays_arm5 {G : Tm → Bool} (HG : Hid (GoodFn G)) {w w2 wr w6 : World} (HM : Hid (MaxV w)) {p m q : Nat} {room : Int} (HRO : Hid (1 ≤ room ∧ room ≤ 65536)) {av : Option Addr} {cv : Nat} {ts : List Tm} (HB6 : Hid (BothV G w p m w2.heap.size room (.slice av ts.length cv) ts w6)) {kd nn k1 : Int} {s1 t1 l1 : ByteArray} {k2 : Int} {s2 t2 l2 : ByteArray} {k3 : Int} {s3 t3 l3 : ByteArray} {ka kb kc kx1 : Int} {xs1 xt1 xl1 : ByteArray} {kx2 : Int} {xs2 xt2 xl2 : ByteArray} {kx3 : Int} {xs3 xt3 xl3 : ByteArray} (HX6 : Hid (w6.heap[wr.heap.size]? = some (.cells #[.int .u8 kd, .int .i64 nn, .int .i64 k1, .string s1, .string t1, .string l1, .int .i64 k2, .string s2, .string t2, .string l2, .int .i64 k3, .string s3, .string t3, .string l3, .int .i64 ka, .int .i64 kb, .int .i64 kc] 67 (0, 0)))) (HT6 : Hid (w6.heap[q]? = some (.cells #[.int .i64 kx1, .string xs1, .string xt1, .string xl1, .int .i64 kx2, .string xs2, .string xt2, .string xl2, .int .i64 kx3, .string xs3, .string xt3, .string xl3] 51 (0, 0)))) {X1 X2 X3 : Tm} (HSK : Hid ((Small X1 ∧ Small X2 ∧ Small X3) ∧ KeyT X1 ∧ KeyT X2 ∧ KeyT X3)) (HV : Hid (kx1 = kindV X1 ∧ xs1 = text0 X1 ∧ xt1 = text1 X1 ∧ xl1 = text2 X1 ∧ kx2 = kindV X2 ∧ xs2 = text0 X2 ∧ xt2 = text1 X2 ∧ xl2 = text2 X2 ∧ kx3 = kindV X3 ∧ xs3 = text0 X3 ∧ xt3 = text1 X3 ∧ xl3 = text2 X3)) {xv : Value} (HXV : Hid (xv = tmV X3)) (HKD : Hid (0 ≤ kd ∧ kd ≤ 255)) (hkm : kd % 7 = 5)
    {sl0 sl1 sl2 sl3 sl4 sl6 sl8 sl12 sl13 sl14 sl15 sl16 sl17 sl18 sl19 sl20 sl21 sl22 sl23 sl24 sl25 sl26 sl27 sl28 sl29 sl30 sl31 sl32 sl33 sl34 sl35 sl36 sl37 sl38 sl39 sl40 sl41 sl42 sl43 sl44 sl45 sl46 sl47 sl48 sl49 sl50 sl51 sl52 sl53 sl54 sl55 sl56 sl57 sl58 sl59 sl60 sl61 sl62 sl63 sl64 sl65 sl66 sl67 sl68 sl69 sl70 sl71 sl72 sl73 sl74 sl75 sl76 sl77 sl78 sl79 sl80 sl81 sl82 sl83 sl84 sl85 sl86 sl87 sl88 sl89 sl90 sl91 sl92 sl93 sl94 sl95 sl96 sl97 sl98 sl99 sl100 sl101 sl102 sl103 sl104 sl105 sl106 sl107 sl108 sl109 sl111 sl112 sl113 sl114 sl115 sl116 sl117 sl118 sl119 sl120 sl121 sl122 sl123 sl124 sl125 sl126 sl127 sl128 sl129 sl130 sl131 sl132 sl133 sl134 sl135 sl136 sl137 sl138 sl139 sl140 sl141 sl142 sl143 sl144 sl145 sl146 sl147 sl148 sl149 sl150 sl151 sl152 sl153 sl154 sl155 sl156 sl157 sl158 sl159 sl160 sl161 sl162 sl163 sl164 sl165 sl166 sl167 sl168 sl169 sl170 sl171 sl172 sl173 sl174 sl175 sl176 sl177 sl178 sl179 sl180 sl181 sl182 sl183 sl184 sl185 sl186 sl187 sl188 sl189 sl190 sl191 sl192 sl193 sl194 sl195 sl196 sl197 sl198 sl199 sl200 sl201 sl202 sl203 sl204 sl205 sl206 sl207 sl208 sl209 sl210 sl211 sl212 sl213 sl214 sl215 sl216 sl217 sl218 sl219 sl220 sl221 sl222 sl223 sl224 sl225 sl226 sl227 sl228 sl229 sl230 sl231 sl232 sl233 sl234 sl235 sl236 sl237 sl238 sl239 sl240 sl241 sl242 sl243 sl244 sl245 sl246 sl247 sl248 sl249 sl250 sl251 sl252 sl253 sl254 sl255 sl256 sl257 sl258 sl259 sl260 sl261 sl262 sl263 sl264 sl265 sl266 sl267 sl268 sl269 sl270 sl271 sl272 sl273 sl274 sl275 sl276 sl277 sl278 sl279 sl280 sl281 sl282 sl283 sl284 sl285 sl286 sl287 sl288 sl289 sl290 sl291 sl292 sl293 sl294 sl295 sl296 sl297 sl298 sl299 sl300 sl301 sl302 sl303 sl304 sl305 sl306 sl307 : Value} (J K' : Act → World → Prop) (Q' : Exit → Act → World → Prop) (hP : ∀ c (a a' : Act) w, a.defers = a'.defers → Q' (.panic c) a w → Q' (.panic c) a' w) (h1 : ∀ a' w', (∃ ul4 ul12 ul13 ul14 ul15 ul16 ul17 ul18 ul19 ul20 ul21 ul22 ul23 ul24 ul25 ul26 ul27 ul28 ul29 ul30 ul31 ul32 ul33 ul111 ul112 ul113 ul114 ul115 ul116 ul117 ul118 ul119 ul120 ul121 ul122 ul123 ul124 ul125 ul126 ul127 ul128 ul129 ul130 ul131 ul132 ul133 ul134 ul135 ul136 ul137 ul138 ul139 ul140 ul141 ul142 ul143 ul144 ul145 ul146 ul147 ul148 ul149 ul150 ul151 ul152 ul153 ul154 ul155 ul156 ul157 ul158 ul159 ul160 ul161 ul162 ul163 ul164 ul165 ul166 ul167 ul168 ul169 ul170 ul171 ul172 ul173 ul174 ul175 ul176 ul177 ul178 ul179 ul180 ul181 ul182 ul183 ul184 ul185 ul186 ul187 ul188 ul189 ul190 ul191 ul192 ul193 ul194 ul195 ul196 ul197 ul198 ul199 ul200 ul201 ul202 ul203 ul204 ul205 ul206 ul207 ul208 ul209 ul210 ul211 ul212 ul213 ul214 ul215 ul216 ul217 ul218 ul219 ul220 ul221 ul222 ul223 ul224 ul225 ul226 ul227 ul228 ul229 ul230 ul231 ul232 ul233 ul234 ul235 ul236 ul237 ul238 ul239 ul240 ul241 ul242 ul243 ul244 ul245 ul246 ul247 ul248 ul249 ul250 ul251 ul252 ul253 ul254 ul255 ul256 ul257 ul258 ul259 ul260 ul261 ul262 ul263 ul264 ul265 ul266 ul267 ul268 ul269 ul270 ul271 ul272 ul273 ul274 ul275 ul276 ul277 ul278 ul279 ul280 ul281 ul282 ul283 ul284 ul285 ul286 ul287 ul288 ul289 ul290 ul291 ul292 ul293 ul294 ul295 ul296 ul297 ul298 ul299 ul300 ul301 ul302 : Value, Hid (∃ ts' V', BothV G w p m w2.heap.size room V' ts' w') ∧ a' = ⟨(sl0 :: sl1 :: sl2 :: sl3 :: ul4 :: .pointer (some ⟨p, 0, none⟩) :: sl6 :: .pointer (some ⟨w2.heap.size, 0, none⟩) :: sl8 :: .pointer (some ⟨wr.heap.size, 0, none⟩) :: .pointer (some ⟨q, 0, none⟩) :: xv :: ul12 :: ul13 :: ul14 :: ul15 :: ul16 :: ul17 :: ul18 :: ul19 :: ul20 :: ul21 :: ul22 :: ul23 :: ul24 :: ul25 :: ul26 :: ul27 :: ul28 :: ul29 :: ul30 :: ul31 :: ul32 :: ul33 :: sl34 :: sl35 :: sl36 :: sl37 :: sl38 :: sl39 :: sl40 :: sl41 :: sl42 :: sl43 :: sl44 :: sl45 :: sl46 :: sl47 :: sl48 :: sl49 :: sl50 :: sl51 :: sl52 :: sl53 :: sl54 :: sl55 :: sl56 :: sl57 :: sl58 :: sl59 :: sl60 :: sl61 :: sl62 :: sl63 :: sl64 :: sl65 :: sl66 :: sl67 :: sl68 :: sl69 :: sl70 :: sl71 :: sl72 :: sl73 :: sl74 :: sl75 :: sl76 :: sl77 :: sl78 :: sl79 :: sl80 :: sl81 :: sl82 :: sl83 :: sl84 :: sl85 :: sl86 :: sl87 :: sl88 :: sl89 :: sl90 :: sl91 :: sl92 :: sl93 :: sl94 :: sl95 :: sl96 :: sl97 :: sl98 :: sl99 :: sl100 :: sl101 :: sl102 :: sl103 :: sl104 :: sl105 :: sl106 :: sl107 :: sl108 :: sl109 :: .int .u8 (kd % 7) :: ul111 :: ul112 :: ul113 :: ul114 :: ul115 :: ul116 :: ul117 :: ul118 :: ul119 :: ul120 :: ul121 :: ul122 :: ul123 :: ul124 :: ul125 :: ul126 :: ul127 :: ul128 :: ul129 :: ul130 :: ul131 :: ul132 :: ul133 :: ul134 :: ul135 :: ul136 :: ul137 :: ul138 :: ul139 :: ul140 :: ul141 :: ul142 :: ul143 :: ul144 :: ul145 :: ul146 :: ul147 :: ul148 :: ul149 :: ul150 :: ul151 :: ul152 :: ul153 :: ul154 :: ul155 :: ul156 :: ul157 :: ul158 :: ul159 :: ul160 :: ul161 :: ul162 :: ul163 :: ul164 :: ul165 :: ul166 :: ul167 :: ul168 :: ul169 :: ul170 :: ul171 :: ul172 :: ul173 :: ul174 :: ul175 :: ul176 :: ul177 :: ul178 :: ul179 :: ul180 :: ul181 :: ul182 :: ul183 :: ul184 :: ul185 :: ul186 :: ul187 :: ul188 :: ul189 :: ul190 :: ul191 :: ul192 :: ul193 :: ul194 :: ul195 :: ul196 :: ul197 :: ul198 :: ul199 :: ul200 :: ul201 :: ul202 :: ul203 :: ul204 :: ul205 :: ul206 :: ul207 :: ul208 :: ul209 :: ul210 :: ul211 :: ul212 :: ul213 :: ul214 :: ul215 :: ul216 :: ul217 :: ul218 :: ul219 :: ul220 :: ul221 :: ul222 :: ul223 :: ul224 :: ul225 :: ul226 :: ul227 :: ul228 :: ul229 :: ul230 :: ul231 :: ul232 :: ul233 :: ul234 :: ul235 :: ul236 :: ul237 :: ul238 :: ul239 :: ul240 :: ul241 :: ul242 :: ul243 :: ul244 :: ul245 :: ul246 :: ul247 :: ul248 :: ul249 :: ul250 :: ul251 :: ul252 :: ul253 :: ul254 :: ul255 :: ul256 :: ul257 :: ul258 :: ul259 :: ul260 :: ul261 :: ul262 :: ul263 :: ul264 :: ul265 :: ul266 :: ul267 :: ul268 :: ul269 :: ul270 :: ul271 :: ul272 :: ul273 :: ul274 :: ul275 :: ul276 :: ul277 :: ul278 :: ul279 :: ul280 :: ul281 :: ul282 :: ul283 :: ul284 :: ul285 :: ul286 :: ul287 :: ul288 :: ul289 :: ul290 :: ul291 :: ul292 :: ul293 :: ul294 :: ul295 :: ul296 :: ul297 :: ul298 :: ul299 :: ul300 :: ul301 :: ul302 :: sl303 :: sl304 :: sl305 :: sl306 :: sl307 :: []).toArray, []⟩) → J a' w') (h2 : ∀ a' w', Met J a' w' → K' a' w') :
    Code.wp Try.prog ((Try.f6.body.bind (findC (isBlk 2))).getD .skip) (Exit.then K' Q') ⟨(sl0 :: sl1 :: sl2 :: sl3 :: sl4 :: .pointer (some ⟨p, 0, none⟩) :: sl6 :: .pointer (some ⟨w2.heap.size, 0, none⟩) :: sl8 :: .pointer (some ⟨wr.heap.size, 0, none⟩) :: .pointer (some ⟨q, 0, none⟩) :: xv :: sl12 :: sl13 :: sl14 :: sl15 :: sl16 :: sl17 :: sl18 :: sl19 :: sl20 :: sl21 :: sl22 :: sl23 :: sl24 :: sl25 :: sl26 :: sl27 :: sl28 :: sl29 :: sl30 :: sl31 :: sl32 :: sl33 :: sl34 :: sl35 :: sl36 :: sl37 :: sl38 :: sl39 :: sl40 :: sl41 :: sl42 :: sl43 :: sl44 :: sl45 :: sl46 :: sl47 :: sl48 :: sl49 :: sl50 :: sl51 :: sl52 :: sl53 :: sl54 :: sl55 :: sl56 :: sl57 :: sl58 :: sl59 :: sl60 :: sl61 :: sl62 :: sl63 :: sl64 :: sl65 :: sl66 :: sl67 :: sl68 :: sl69 :: sl70 :: sl71 :: sl72 :: sl73 :: sl74 :: sl75 :: sl76 :: sl77 :: sl78 :: sl79 :: sl80 :: sl81 :: sl82 :: sl83 :: sl84 :: sl85 :: sl86 :: sl87 :: sl88 :: sl89 :: sl90 :: sl91 :: sl92 :: sl93 :: sl94 :: sl95 :: sl96 :: sl97 :: sl98 :: sl99 :: sl100 :: sl101 :: sl102 :: sl103 :: sl104 :: sl105 :: sl106 :: sl107 :: sl108 :: sl109 :: .int .u8 (kd % 7) :: sl111 :: sl112 :: sl113 :: sl114 :: sl115 :: sl116 :: sl117 :: sl118 :: sl119 :: sl120 :: sl121 :: sl122 :: sl123 :: sl124 :: sl125 :: sl126 :: sl127 :: sl128 :: sl129 :: sl130 :: sl131 :: sl132 :: sl133 :: sl134 :: sl135 :: sl136 :: sl137 :: sl138 :: sl139 :: sl140 :: sl141 :: sl142 :: sl143 :: sl144 :: sl145 :: sl146 :: sl147 :: sl148 :: sl149 :: sl150 :: sl151 :: sl152 :: sl153 :: sl154 :: sl155 :: sl156 :: sl157 :: sl158 :: sl159 :: sl160 :: sl161 :: sl162 :: sl163 :: sl164 :: sl165 :: sl166 :: sl167 :: sl168 :: sl169 :: sl170 :: sl171 :: sl172 :: sl173 :: sl174 :: sl175 :: sl176 :: sl177 :: sl178 :: sl179 :: sl180 :: sl181 :: sl182 :: sl183 :: sl184 :: sl185 :: sl186 :: sl187 :: sl188 :: sl189 :: sl190 :: sl191 :: sl192 :: sl193 :: sl194 :: sl195 :: sl196 :: sl197 :: sl198 :: sl199 :: sl200 :: sl201 :: sl202 :: sl203 :: sl204 :: sl205 :: sl206 :: sl207 :: sl208 :: sl209 :: sl210 :: sl211 :: sl212 :: sl213 :: sl214 :: sl215 :: sl216 :: sl217 :: sl218 :: sl219 :: sl220 :: sl221 :: sl222 :: sl223 :: sl224 :: sl225 :: sl226 :: sl227 :: sl228 :: sl229 :: sl230 :: sl231 :: sl232 :: sl233 :: sl234 :: sl235 :: sl236 :: sl237 :: sl238 :: sl239 :: sl240 :: sl241 :: sl242 :: sl243 :: sl244 :: sl245 :: sl246 :: sl247 :: sl248 :: sl249 :: sl250 :: sl251 :: sl252 :: sl253 :: sl254 :: sl255 :: sl256 :: sl257 :: sl258 :: sl259 :: sl260 :: sl261 :: sl262 :: sl263 :: sl264 :: sl265 :: sl266 :: sl267 :: sl268 :: sl269 :: sl270 :: sl271 :: sl272 :: sl273 :: sl274 :: sl275 :: sl276 :: sl277 :: sl278 :: sl279 :: sl280 :: sl281 :: sl282 :: sl283 :: sl284 :: sl285 :: sl286 :: sl287 :: sl288 :: sl289 :: sl290 :: sl291 :: sl292 :: sl293 :: sl294 :: sl295 :: sl296 :: sl297 :: sl298 :: sl299 :: sl300 :: sl301 :: sl302 :: sl303 :: sl304 :: sl305 :: sl306 :: sl307 :: []).toArray, []⟩ w6 := by
  conv => arg 2; whnf
  have hk0 := HKD.out.1
  have hk1 := HKD.out.2
  have hq0 : (kd % 7 == 0) = false := by simp; omega
  have hq1 : (kd % 7 == 1) = false := by simp; omega
  have hq2 : (kd % 7 == 2) = false := by simp; omega
  have hq3 : (kd % 7 == 3) = false := by simp; omega
  have hq4 : (kd % 7 == 4) = false := by simp; omega
  have hq5 : (kd % 7 == 5) = true := by simp; omega
  clear hkm
  obtain ⟨c0, c1, c2, c3, c4, c5, c6, c7, c8, c9, c10, c11, c12, c13, c14, c15, c16⟩ := cells17 HX6.out
  obtain ⟨n0, n1, n2, n3, n4, n5, n6, n7, n8, n9, n10, n11⟩ := cells12 HT6.out
  have hl65 : ts.length ≤ 65536 := by obtain ⟨_, _, _, _, _, _, _, _, _, _, h8⟩ := HB6.out.1; exact h8
  clear n0 n1 n2 n3 n4 n5 n6 n7 n8 n9 n10 n11
  have HRT := Lib.hid (fun w1 (h1 : DocRow w1 0 (.slice av ts.length cv) ts) => rtrip_any HG.out room _ ts ka kb kc w1 h1 HB6.out.2.2.2.1 (by omega))
  have HTR := Lib.hid (fun w1 (hm : MaxV w1) (hd : DcAt w.heap.size p m ts room w1) => trip_any HG.out ka kb kc hm hd HB6.out.2.2.2.1)
  clear hl65
  obtain ⟨x0, x1, x2, x3⟩ := cells2 HB6.out.2.1
  rcases trip_cases HB6.out.2.2.2.1 ka kb kc with ⟨t, ht, hkt⟩ | ⟨z, hz, ht⟩
  · rw [ht] at HRT HTR
    unfold rtripV at HRT
    dsimp only at HRT HTR
    rw [if_pos rfl] at HRT
    unfold rtriV at HRT
    unfold triV at HTR
    have HKT := Lib.hid hkt
    have HIS := Lib.hid (fun w1 V1 V2 b1 b2 (h1 : TriRow w1 b1 V1 [t]) (h2 : RTriRow w1 b2 V2 [t]) => is4_any b1 b2 V1 V2 [t] w1 h1 h2 (fun x hx => by rw [List.mem_singleton] at hx; rw [hx]; exact HKT.out) (by simp))
    have HN1 : Hid (∀ w1 : World, TriRow (w1.alloc (.cells #[tmV t.s, tmV t.p, tmV t.o] 58)) w1.heap.size (.slice (some ⟨w1.heap.size, 0, none⟩) 1 1) [t]) := Lib.hid (fun w1 => RowOf.new triC_len w1 [t] (by simp))
    have HN2 : Hid (∀ w1 : World, RTriRow (w1.alloc (.cells #[.int .i64 (kindV t.s), .string (text0 t.s), .string (text1 t.s), .string (text2 t.s), .int .i64 (kindV t.p), .string (text0 t.p), .string (text1 t.p), .string (text2 t.p), .int .i64 (kindV t.o), .string (text0 t.o), .string (text1 t.o), .string (text2 t.o)] 51)) w1.heap.size (.slice (some ⟨w1.heap.size, 0, none⟩) 1 1) [t]) := Lib.hid (fun w1 => RowOf.new rtriC_len w1 [t] (by simp))
    have hia := key_iface hkt.1
    have hib := key_iface hkt.2.1
    have hic := key_iface hkt.2.2
    clear ht hkt
    obtain ⟨Ta, Ya, hea⟩ := hia
    obtain ⟨Tb, Yb, heb⟩ := hib
    obtain ⟨Tc, Yc, hec⟩ := hic
    rw [hea, heb, hec] at HTR HN1
    clear hea heb hec
    obtain ⟨gk1, hgk1⟩ : ∃ v, v = kindV t.s := ⟨_, rfl⟩
    obtain ⟨gs1, hgs1⟩ : ∃ v, v = text0 t.s := ⟨_, rfl⟩
    obtain ⟨gt1, hgt1⟩ : ∃ v, v = text1 t.s := ⟨_, rfl⟩
    obtain ⟨gl1, hgl1⟩ : ∃ v, v = text2 t.s := ⟨_, rfl⟩
    obtain ⟨gk2, hgk2⟩ : ∃ v, v = kindV t.p := ⟨_, rfl⟩
    obtain ⟨gs2, hgs2⟩ : ∃ v, v = text0 t.p := ⟨_, rfl⟩
    obtain ⟨gt2, hgt2⟩ : ∃ v, v = text1 t.p := ⟨_, rfl⟩
    obtain ⟨gl2, hgl2⟩ : ∃ v, v = text2 t.p := ⟨_, rfl⟩
    obtain ⟨gk3, hgk3⟩ : ∃ v, v = kindV t.o := ⟨_, rfl⟩
    obtain ⟨gs3, hgs3⟩ : ∃ v, v = text0 t.o := ⟨_, rfl⟩
    obtain ⟨gt3, hgt3⟩ : ∃ v, v = text1 t.o := ⟨_, rfl⟩
    obtain ⟨gl3, hgl3⟩ : ∃ v, v = text2 t.o := ⟨_, rfl⟩
    rw [← hgk1, ← hgs1, ← hgt1, ← hgl1, ← hgk2, ← hgs2, ← hgt2, ← hgl2, ← hgk3, ← hgs3, ← hgt3, ← hgl3] at HRT HN2
    clear hgk1 hgs1 hgt1 hgl1 hgk2 hgs2 hgt2 hgl2 hgk3 hgs3 hgt3 hgl3
    go_wp2_with fail
    refine (HRT.out _ HB6.out.2.2.1).mono ?_
    rintro e w7 ⟨rfl, hb7⟩
    have HB7 := Lib.hid ((HB6.out.below hb7).alloc (.cells #[.int .i64 gk1, .string gs1, .string gt1, .string gl1, .int .i64 gk2, .string gs2, .string gt2, .string gl2, .int .i64 gk3, .string gs3, .string gt3, .string gl3] 51))
    have HT7 := Lib.hid (box_new w7 #[.int .i64 gk1, .string gs1, .string gt1, .string gl1, .int .i64 gk2, .string gs2, .string gt2, .string gl2, .int .i64 gk3, .string gs3, .string gt3, .string gl3] 51)
    have HX7 := Lib.hid (box_alloc (o' := .cells #[.int .i64 gk1, .string gs1, .string gt1, .string gl1, .int .i64 gk2, .string gs2, .string gt2, .string gl2, .int .i64 gk3, .string gs3, .string gt3, .string gl3] 51) (box_below HX6.out hb7))
    clear hb7 x0 x1 x2 x3 c0 c1 c2 c3 c4 c5 c6 c7 c8 c9 c10 c11 c12 c13 c14 c15 c16
    obtain ⟨c0, c1, c2, c3, c4, c5, c6, c7, c8, c9, c10, c11, c12, c13, c14, c15, c16⟩ := cells17 HX7.out
    go_wp2_with fail
    refine (HTR.out _ (HM.out.below HB7.out.bel) HB7.out.1).mono ?_
    rintro e w8 ⟨rfl, hb8⟩
    have HB8 := Lib.hid (HB7.out.below hb8)
    have HT8 := Lib.hid (box_below HT7.out hb8)
    have hl8 := lt_heap HT8.out
    have hl9 : w7.heap.size < w8.heap.size + 1 := by omega
    obtain ⟨y0, y1, y2, y3, y4, y5, y6, y7, y8, y9, y10, y11⟩ := cells12 (box_alloc (o' := .cells #[.iface Ta Ya, .iface Tb Yb, .iface Tc Yc] 58) HT8.out)
    clear hb8 c0 c1 c2 c3 c4 c5 c6 c7 c8 c9 c10 c11 c12 c13 c14 c15 c16
    have HR13 : Hid (TriRow (((w8.alloc (.cells #[.iface Ta Ya, .iface Tb Yb, .iface Tc Yc] 58)).alloc (.cells #[.iface Ta Ya, .iface Tb Yb, .iface Tc Yc] 58)).alloc (.cells #[.int .i64 gk1, .string gs1, .string gt1, .string gl1, .int .i64 gk2, .string gs2, .string gt2, .string gl2, .int .i64 gk3, .string gs3, .string gt3, .string gl3] 51)) (w8.heap.size + 1) (.slice (some ⟨w8.heap.size + 1, 0, none⟩) 1 1) [t]) := Lib.hid (by
      have h := (HN1.out (w8.alloc (.cells #[.iface Ta Ya, .iface Tb Yb, .iface Tc Yc] 58))).below ((Below.refl _ _).alloc (Nat.le_refl _) (.cells #[.int .i64 gk1, .string gs1, .string gt1, .string gl1, .int .i64 gk2, .string gs2, .string gt2, .string gl2, .int .i64 gk3, .string gs3, .string gt3, .string gl3] 51))
      rwa [show (w8.alloc (.cells #[.iface Ta Ya, .iface Tb Yb, .iface Tc Yc] 58)).heap.size = w8.heap.size + 1 from by simp] at h)
    have HR14 : Hid (RTriRow (((w8.alloc (.cells #[.iface Ta Ya, .iface Tb Yb, .iface Tc Yc] 58)).alloc (.cells #[.iface Ta Ya, .iface Tb Yb, .iface Tc Yc] 58)).alloc (.cells #[.int .i64 gk1, .string gs1, .string gt1, .string gl1, .int .i64 gk2, .string gs2, .string gt2, .string gl2, .int .i64 gk3, .string gs3, .string gt3, .string gl3] 51)) (w8.heap.size + 1 + 1) (.slice (some ⟨w8.heap.size + 1 + 1, 0, none⟩) 1 1) [t]) := Lib.hid (by
      have h := HN2.out ((w8.alloc (.cells #[.iface Ta Ya, .iface Tb Yb, .iface Tc Yc] 58)).alloc (.cells #[.iface Ta Ya, .iface Tb Yb, .iface Tc Yc] 58))
      rwa [show ((w8.alloc (.cells #[.iface Ta Ya, .iface Tb Yb, .iface Tc Yc] 58)).alloc (.cells #[.iface Ta Ya, .iface Tb Yb, .iface Tc Yc] 58)).heap.size = w8.heap.size + 1 + 1 from by simp] at h)
    have HB14 := Lib.hid (((HB8.out.alloc (.cells #[.iface Ta Ya, .iface Tb Yb, .iface Tc Yc] 58)).alloc (.cells #[.iface Ta Ya, .iface Tb Yb, .iface Tc Yc] 58)).alloc (.cells #[.int .i64 gk1, .string gs1, .string gt1, .string gl1, .int .i64 gk2, .string gs2, .string gt2, .string gl2, .int .i64 gk3, .string gs3, .string gt3, .string gl3] 51))
    go_wp2_with fail
    refine (HIS.out _ _ _ _ _ HR13.out HR14.out).mono ?_
    rintro e w15 ⟨rfl, hb15⟩
    have HB15 := Lib.hid (HB14.out.below hb15)
    clear hb15 y0 y1 y2 y3 y4 y5 y6 y7 y8 y9 y10 y11 hl8 hl9
    go_wp2_with fail
    go_meet
    case rel => exact Lib.hid ⟨_, _, HB15.out⟩
  · rw [ht] at HRT HTR
    have hz0 : z ≠ 0 := by omega
    unfold rtripV rzero3 at HRT
    dsimp only at HRT HTR
    rw [if_neg hz0] at HRT
    unfold triV at HTR
    have q1 : (z == 0) = false := by simpa using hz0
    have q2 : (z != 0) = true := by simpa using hz0
    have hE : ∀ w, (Go.binOp BinOp.neq 39 .nilIface .nilIface).run Try.prog w = .ok (.bool false) w := fun w => by kernel_rfl
    have hEG1 : ∀ w, (Go.eqGuard BinOp.neq 39 (.tmp 289) (.const .nilIface) .nilIface .nilIface).run Try.prog w = .ok () w := fun w => by kernel_rfl
    have hEG2 : ∀ w, (Go.eqGuard BinOp.neq 39 (.tmp 293) (.const .nilIface) .nilIface .nilIface).run Try.prog w = .ok () w := fun w => by kernel_rfl
    have hEG3 : ∀ w, (Go.eqGuard BinOp.neq 39 (.tmp 298) (.const .nilIface) .nilIface .nilIface).run Try.prog w = .ok () w := fun w => by kernel_rfl
    change Hid (∀ w1 (hm : MaxV w1) (hd : DcAt w.heap.size p m ts room w1), Calls _ _ _ w1 fun e w' => e = .returned (.tuple #[.agg #[.nilIface, .nilIface, .nilIface], .int .i64 z]) ∧ _) at HTR
    clear ht hz hz0
    go_wp2_with fail
    refine (HRT.out _ HB6.out.2.2.1).mono ?_
    rintro e w7 ⟨rfl, hb7⟩
    have HB7 := Lib.hid ((HB6.out.below hb7).alloc (.cells #[.int .i64 0, .string ⟨#[]⟩, .string ⟨#[]⟩, .string ⟨#[]⟩, .int .i64 0, .string ⟨#[]⟩, .string ⟨#[]⟩, .string ⟨#[]⟩, .int .i64 0, .string ⟨#[]⟩, .string ⟨#[]⟩, .string ⟨#[]⟩] 51))
    have HX7 := Lib.hid (box_alloc (o' := .cells #[.int .i64 0, .string ⟨#[]⟩, .string ⟨#[]⟩, .string ⟨#[]⟩, .int .i64 0, .string ⟨#[]⟩, .string ⟨#[]⟩, .string ⟨#[]⟩, .int .i64 0, .string ⟨#[]⟩, .string ⟨#[]⟩, .string ⟨#[]⟩] 51) (box_below HX6.out hb7))
    clear hb7 x0 x1 x2 x3 c0 c1 c2 c3 c4 c5 c6 c7 c8 c9 c10 c11 c12 c13 c14 c15 c16
    obtain ⟨c0, c1, c2, c3, c4, c5, c6, c7, c8, c9, c10, c11, c12, c13, c14, c15, c16⟩ := cells17 HX7.out
    go_wp2_with fail
    refine (HTR.out _ (HM.out.below HB7.out.bel) HB7.out.1).mono ?_
    rintro e w8 ⟨rfl, hb8⟩
    have HB8 := Lib.hid ((HB7.out.below hb8).alloc (.cells #[.nilIface, .nilIface, .nilIface] 58))
    clear hb8 c0 c1 c2 c3 c4 c5 c6 c7 c8 c9 c10 c11 c12 c13 c14 c15 c16
    go_wp2_with fail
    go_meet
    case rel => exact Lib.hid ⟨_, _, HB8.out⟩
end Go.Proofs.Ytghimladdioajaa
namespace Go.Proofs.Ytghimladdioajaa
open Go Go.RowKit
set_option linter.unusedVariables false
set_option linter.unusedSimpArgs false
set_option maxRecDepth 100000
set_option maxHeartbeats 12800000 in
theorem plays_arm6 {G : Tm → Bool} (HG : Hid (GoodFn G)) {w w2 wr w6 : World} (HM : Hid (MaxV w)) {p m q : Nat} {room : Int} (HRO : Hid (1 ≤ room ∧ room ≤ 65536)) {av : Option Addr} {cv : Nat} {ts : List Tm} (HB6 : Hid (BothV G w p m w2.heap.size room (.slice av ts.length cv) ts w6)) {kd nn k1 : Int} {s1 t1 l1 : ByteArray} {k2 : Int} {s2 t2 l2 : ByteArray} {k3 : Int} {s3 t3 l3 : ByteArray} {ka kb kc kx1 : Int} {xs1 xt1 xl1 : ByteArray} {kx2 : Int} {xs2 xt2 xl2 : ByteArray} {kx3 : Int} {xs3 xt3 xl3 : ByteArray} (HX6 : Hid (w6.heap[wr.heap.size]? = some (.cells #[.int .u8 kd, .int .i64 nn, .int .i64 k1, .string s1, .string t1, .string l1, .int .i64 k2, .string s2, .string t2, .string l2, .int .i64 k3, .string s3, .string t3, .string l3, .int .i64 ka, .int .i64 kb, .int .i64 kc] 67 (0, 0)))) (HT6 : Hid (w6.heap[q]? = some (.cells #[.int .i64 kx1, .string xs1, .string xt1, .string xl1, .int .i64 kx2, .string xs2, .string xt2, .string xl2, .int .i64 kx3, .string xs3, .string xt3, .string xl3] 51 (0, 0)))) {X1 X2 X3 : Tm} (HSK : Hid ((Small X1 ∧ Small X2 ∧ Small X3) ∧ KeyT X1 ∧ KeyT X2 ∧ KeyT X3)) (HV : Hid (kx1 = kindV X1 ∧ xs1 = text0 X1 ∧ xt1 = text1 X1 ∧ xl1 = text2 X1 ∧ kx2 = kindV X2 ∧ xs2 = text0 X2 ∧ xt2 = text1 X2 ∧ xl2 = text2 X2 ∧ kx3 = kindV X3 ∧ xs3 = text0 X3 ∧ xt3 = text1 X3 ∧ xl3 = text2 X3)) {xv : Value} (HXV : Hid (xv = tmV X3)) (HKD : Hid (0 ≤ kd ∧ kd ≤ 255)) (hkm : kd % 7 = 6)
    {sl0 sl1 sl2 sl3 sl4 sl6 sl8 sl12 sl13 sl14 sl15 sl16 sl17 sl18 sl19 sl20 sl21 sl22 sl23 sl24 sl25 sl26 sl27 sl28 sl29 sl30 sl31 sl32 sl33 sl34 sl35 sl36 sl37 sl38 sl39 sl40 sl41 sl42 sl43 sl44 sl45 sl46 sl47 sl48 sl49 sl50 sl51 sl52 sl53 sl54 sl55 sl56 sl57 sl58 sl59 sl60 sl61 sl62 sl63 sl64 sl65 sl66 sl67 sl68 sl69 sl70 sl71 sl72 sl73 sl74 sl75 sl76 sl77 sl78 sl79 sl80 sl81 sl82 sl83 sl84 sl85 sl86 sl87 sl88 sl89 sl90 sl91 sl92 sl93 sl94 sl95 sl96 sl97 sl98 sl99 sl100 sl101 sl102 sl103 sl104 sl105 sl106 sl107 sl108 sl109 sl111 sl112 sl113 sl114 sl115 sl116 sl117 sl118 sl119 sl120 sl121 sl122 sl123 sl124 sl125 sl126 sl127 sl128 sl129 sl130 sl131 sl132 sl133 sl134 sl135 sl136 sl137 sl138 sl139 sl140 sl141 sl142 sl143 sl144 sl145 sl146 sl147 sl148 sl149 sl150 sl151 sl152 sl153 sl154 sl155 sl156 sl157 sl158 sl159 sl160 sl161 sl162 sl163 sl164 sl165 sl166 sl167 sl168 sl169 sl170 sl171 sl172 sl173 sl174 sl175 sl176 sl177 sl178 sl179 sl180 sl181 sl182 sl183 sl184 sl185 sl186 sl187 sl188 sl189 sl190 sl191 sl192 sl193 sl194 sl195 sl196 sl197 sl198 sl199 sl200 sl201 sl202 sl203 sl204 sl205 sl206 sl207 sl208 sl209 sl210 sl211 sl212 sl213 sl214 sl215 sl216 sl217 sl218 sl219 sl220 sl221 sl222 sl223 sl224 sl225 sl226 sl227 sl228 sl229 sl230 sl231 sl232 sl233 sl234 sl235 sl236 sl237 sl238 sl239 sl240 sl241 sl242 sl243 sl244 sl245 sl246 sl247 sl248 sl249 sl250 sl251 sl252 sl253 sl254 sl255 sl256 sl257 sl258 sl259 sl260 sl261 sl262 sl263 sl264 sl265 sl266 sl267 sl268 sl269 sl270 sl271 sl272 sl273 sl274 sl275 sl276 sl277 sl278 sl279 sl280 sl281 sl282 sl283 sl284 sl285 sl286 sl287 sl288 sl289 sl290 sl291 sl292 sl293 sl294 sl295 sl296 sl297 sl298 sl299 sl300 sl301 sl302 sl303 sl304 sl305 sl306 sl307 : Value} (J K' : Act → World → Prop) (Q' : Exit → Act → World → Prop) (hP : ∀ c (a a' : Act) w, a.defers = a'.defers → Q' (.panic c) a w → Q' (.panic c) a' w) (h1 : ∀ a' w', (∃ ul4 ul12 ul13 ul14 ul15 ul16 ul17 ul18 ul19 ul20 ul21 ul22 ul23 ul24 ul25 ul26 ul27 ul28 ul29 ul30 ul31 ul32 ul33 ul111 ul112 ul113 ul114 ul115 ul116 ul117 ul118 ul119 ul120 ul121 ul122 ul123 ul124 ul125 ul126 ul127 ul128 ul129 ul130 ul131 ul132 ul133 ul134 ul135 ul136 ul137 ul138 ul139 ul140 ul141 ul142 ul143 ul144 ul145 ul146 ul147 ul148 ul149 ul150 ul151 ul152 ul153 ul154 ul155 ul156 ul157 ul158 ul159 ul160 ul161 ul162 ul163 ul164 ul165 ul166 ul167 ul168 ul169 ul170 ul171 ul172 ul173 ul174 ul175 ul176 ul177 ul178 ul179 ul180 ul181 ul182 ul183 ul184 ul185 ul186 ul187 ul188 ul189 ul190 ul191 ul192 ul193 ul194 ul195 ul196 ul197 ul198 ul199 ul200 ul201 ul202 ul203 ul204 ul205 ul206 ul207 ul208 ul209 ul210 ul211 ul212 ul213 ul214 ul215 ul216 ul217 ul218 ul219 ul220 ul221 ul222 ul223 ul224 ul225 ul226 ul227 ul228 ul229 ul230 ul231 ul232 ul233 ul234 ul235 ul236 ul237 ul238 ul239 ul240 ul241 ul242 ul243 ul244 ul245 ul246 ul247 ul248 ul249 ul250 ul251 ul252 ul253 ul254 ul255 ul256 ul257 ul258 ul259 ul260 ul261 ul262 ul263 ul264 ul265 ul266 ul267 ul268 ul269 ul270 ul271 ul272 ul273 ul274 ul275 ul276 ul277 ul278 ul279 ul280 ul281 ul282 ul283 ul284 ul285 ul286 ul287 ul288 ul289 ul290 ul291 ul292 ul293 ul294 ul295 ul296 ul297 ul298 ul299 ul300 ul301 ul302 : Value, Hid (∃ ts' V', BothV G w p m w2.heap.size room V' ts' w') ∧ a' = ⟨(sl0 :: sl1 :: sl2 :: sl3 :: ul4 :: .pointer (some ⟨p, 0, none⟩) :: sl6 :: .pointer (some ⟨w2.heap.size, 0, none⟩) :: sl8 :: .pointer (some ⟨wr.heap.size, 0, none⟩) :: .pointer (some ⟨q, 0, none⟩) :: xv :: ul12 :: ul13 :: ul14 :: ul15 :: ul16 :: ul17 :: ul18 :: ul19 :: ul20 :: ul21 :: ul22 :: ul23 :: ul24 :: ul25 :: ul26 :: ul27 :: ul28 :: ul29 :: ul30 :: ul31 :: ul32 :: ul33 :: sl34 :: sl35 :: sl36 :: sl37 :: sl38 :: sl39 :: sl40 :: sl41 :: sl42 :: sl43 :: sl44 :: sl45 :: sl46 :: sl47 :: sl48 :: sl49 :: sl50 :: sl51 :: sl52 :: sl53 :: sl54 :: sl55 :: sl56 :: sl57 :: sl58 :: sl59 :: sl60 :: sl61 :: sl62 :: sl63 :: sl64 :: sl65 :: sl66 :: sl67 :: sl68 :: sl69 :: sl70 :: sl71 :: sl72 :: sl73 :: sl74 :: sl75 :: sl76 :: sl77 :: sl78 :: sl79 :: sl80 :: sl81 :: sl82 :: sl83 :: sl84 :: sl85 :: sl86 :: sl87 :: sl88 :: sl89 :: sl90 :: sl91 :: sl92 :: sl93 :: sl94 :: sl95 :: sl96 :: sl97 :: sl98 :: sl99 :: sl100 :: sl101 :: sl102 :: sl103 :: sl104 :: sl105 :: sl106 :: sl107 :: sl108 :: sl109 :: .int .u8 (kd % 7) :: ul111 :: ul112 :: ul113 :: ul114 :: ul115 :: ul116 :: ul117 :: ul118 :: ul119 :: ul120 :: ul121 :: ul122 :: ul123 :: ul124 :: ul125 :: ul126 :: ul127 :: ul128 :: ul129 :: ul130 :: ul131 :: ul132 :: ul133 :: ul134 :: ul135 :: ul136 :: ul137 :: ul138 :: ul139 :: ul140 :: ul141 :: ul142 :: ul143 :: ul144 :: ul145 :: ul146 :: ul147 :: ul148 :: ul149 :: ul150 :: ul151 :: ul152 :: ul153 :: ul154 :: ul155 :: ul156 :: ul157 :: ul158 :: ul159 :: ul160 :: ul161 :: ul162 :: ul163 :: ul164 :: ul165 :: ul166 :: ul167 :: ul168 :: ul169 :: ul170 :: ul171 :: ul172 :: ul173 :: ul174 :: ul175 :: ul176 :: ul177 :: ul178 :: ul179 :: ul180 :: ul181 :: ul182 :: ul183 :: ul184 :: ul185 :: ul186 :: ul187 :: ul188 :: ul189 :: ul190 :: ul191 :: ul192 :: ul193 :: ul194 :: ul195 :: ul196 :: ul197 :: ul198 :: ul199 :: ul200 :: ul201 :: ul202 :: ul203 :: ul204 :: ul205 :: ul206 :: ul207 :: ul208 :: ul209 :: ul210 :: ul211 :: ul212 :: ul213 :: ul214 :: ul215 :: ul216 :: ul217 :: ul218 :: ul219 :: ul220 :: ul221 :: ul222 :: ul223 :: ul224 :: ul225 :: ul226 :: ul227 :: ul228 :: ul229 :: ul230 :: ul231 :: ul232 :: ul233 :: ul234 :: ul235 :: ul236 :: ul237 :: ul238 :: ul239 :: ul240 :: ul241 :: ul242 :: ul243 :: ul244 :: ul245 :: ul246 :: ul247 :: ul248 :: ul249 :: ul250 :: ul251 :: ul252 :: ul253 :: ul254 :: ul255 :: ul256 :: ul257 :: ul258 :: ul259 :: ul260 :: ul261 :: ul262 :: ul263 :: ul264 :: ul265 :: ul266 :: ul267 :: ul268 :: ul269 :: ul270 :: ul271 :: ul272 :: ul273 :: ul274 :: ul275 :: ul276 :: ul277 :: ul278 :: ul279 :: ul280 :: ul281 :: ul282 :: ul283 :: ul284 :: ul285 :: ul286 :: ul287 :: ul288 :: ul289 :: ul290 :: ul291 :: ul292 :: ul293 :: ul294 :: ul295 :: ul296 :: ul297 :: ul298 :: ul299 :: ul300 :: ul301 :: ul302 :: sl303 :: sl304 :: sl305 :: sl306 :: sl307 :: []).toArray, []⟩) → J a' w') (h2 : ∀ a' w', Met J a' w' → K' a' w') :
    Code.wp Try.prog ((Try.f6.body.bind (findC (isBlk 2))).getD .skip) (Exit.then K' Q') ⟨(sl0 :: sl1 :: sl2 :: sl3 :: sl4 :: .pointer (some ⟨p, 0, none⟩) :: sl6 :: .pointer (some ⟨w2.heap.size, 0, none⟩) :: sl8 :: .pointer (some ⟨wr.heap.size, 0, none⟩) :: .pointer (some ⟨q, 0, none⟩) :: xv :: sl12 :: sl13 :: sl14 :: sl15 :: sl16 :: sl17 :: sl18 :: sl19 :: sl20 :: sl21 :: sl22 :: sl23 :: sl24 :: sl25 :: sl26 :: sl27 :: sl28 :: sl29 :: sl30 :: sl31 :: sl32 :: sl33 :: sl34 :: sl35 :: sl36 :: sl37 :: sl38 :: sl39 :: sl40 :: sl41 :: sl42 :: sl43 :: sl44 :: sl45 :: sl46 :: sl47 :: sl48 :: sl49 :: sl50 :: sl51 :: sl52 :: sl53 :: sl54 :: sl55 :: sl56 :: sl57 :: sl58 :: sl59 :: sl60 :: sl61 :: sl62 :: sl63 :: sl64 :: sl65 :: sl66 :: sl67 :: sl68 :: sl69 :: sl70 :: sl71 :: sl72 :: sl73 :: sl74 :: sl75 :: sl76 :: sl77 :: sl78 :: sl79 :: sl80 :: sl81 :: sl82 :: sl83 :: sl84 :: sl85 :: sl86 :: sl87 :: sl88 :: sl89 :: sl90 :: sl91 :: sl92 :: sl93 :: sl94 :: sl95 :: sl96 :: sl97 :: sl98 :: sl99 :: sl100 :: sl101 :: sl102 :: sl103 :: sl104 :: sl105 :: sl106 :: sl107 :: sl108 :: sl109 :: .int .u8 (kd % 7) :: sl111 :: sl112 :: sl113 :: sl114 :: sl115 :: sl116 :: sl117 :: sl118 :: sl119 :: sl120 :: sl121 :: sl122 :: sl123 :: sl124 :: sl125 :: sl126 :: sl127 :: sl128 :: sl129 :: sl130 :: sl131 :: sl132 :: sl133 :: sl134 :: sl135 :: sl136 :: sl137 :: sl138 :: sl139 :: sl140 :: sl141 :: sl142 :: sl143 :: sl144 :: sl145 :: sl146 :: sl147 :: sl148 :: sl149 :: sl150 :: sl151 :: sl152 :: sl153 :: sl154 :: sl155 :: sl156 :: sl157 :: sl158 :: sl159 :: sl160 :: sl161 :: sl162 :: sl163 :: sl164 :: sl165 :: sl166 :: sl167 :: sl168 :: sl169 :: sl170 :: sl171 :: sl172 :: sl173 :: sl174 :: sl175 :: sl176 :: sl177 :: sl178 :: sl179 :: sl180 :: sl181 :: sl182 :: sl183 :: sl184 :: sl185 :: sl186 :: sl187 :: sl188 :: sl189 :: sl190 :: sl191 :: sl192 :: sl193 :: sl194 :: sl195 :: sl196 :: sl197 :: sl198 :: sl199 :: sl200 :: sl201 :: sl202 :: sl203 :: sl204 :: sl205 :: sl206 :: sl207 :: sl208 :: sl209 :: sl210 :: sl211 :: sl212 :: sl213 :: sl214 :: sl215 :: sl216 :: sl217 :: sl218 :: sl219 :: sl220 :: sl221 :: sl222 :: sl223 :: sl224 :: sl225 :: sl226 :: sl227 :: sl228 :: sl229 :: sl230 :: sl231 :: sl232 :: sl233 :: sl234 :: sl235 :: sl236 :: sl237 :: sl238 :: sl239 :: sl240 :: sl241 :: sl242 :: sl243 :: sl244 :: sl245 :: sl246 :: sl247 :: sl248 :: sl249 :: sl250 :: sl251 :: sl252 :: sl253 :: sl254 :: sl255 :: sl256 :: sl257 :: sl258 :: sl259 :: sl260 :: sl261 :: sl262 :: sl263 :: sl264 :: sl265 :: sl266 :: sl267 :: sl268 :: sl269 :: sl270 :: sl271 :: sl272 :: sl273 :: sl274 :: sl275 :: sl276 :: sl277 :: sl278 :: sl279 :: sl280 :: sl281 :: sl282 :: sl283 :: sl284 :: sl285 :: sl286 :: sl287 :: sl288 :: sl289 :: sl290 :: sl291 :: sl292 :: sl293 :: sl294 :: sl295 :: sl296 :: sl297 :: sl298 :: sl299 :: sl300 :: sl301 :: sl302 :: sl303 :: sl304 :: sl305 :: sl306 :: sl307 :: []).toArray, []⟩ w6 := by
  conv => arg 2; whnf
  have hk0 := HKD.out.1
  have hk1 := HKD.out.2
  have hq0 : (kd % 7 == 0) = false := by simp; omega
  have hq1 : (kd % 7 == 1) = false := by simp; omega
  have hq2 : (kd % 7 == 2) = false := by simp; omega
  have hq3 : (kd % 7 == 3) = false := by simp; omega
  have hq4 : (kd % 7 == 4) = false := by simp; omega
  have hq5 : (kd % 7 == 5) = false := by simp; omega
  clear hkm
  obtain ⟨c0, c1, c2, c3, c4, c5, c6, c7, c8, c9, c10, c11, c12, c13, c14, c15, c16⟩ := cells17 HX6.out
  obtain ⟨n0, n1, n2, n3, n4, n5, n6, n7, n8, n9, n10, n11⟩ := cells12 HT6.out
  have hl65 : ts.length ≤ 65536 := by obtain ⟨_, _, _, _, _, _, _, _, _, _, h8⟩ := HB6.out.1; exact h8
  have HRC := Lib.hid (fun w1 (h1 : DocRow w1 0 (.slice av ts.length cv) ts) => rcut_any room _ ts nn w1 h1 (by omega))
  have HCU := Lib.hid (fun w1 (hd : DcAt w.heap.size p m ts room w1) (hs : w.heap.size ≤ w1.heap.size) => cut_any nn hd HB6.out.2.2.2.2.1 hs)
  obtain ⟨ts', hts'⟩ : ∃ ts', ts' = ts.take (leftT nn ts) := ⟨_, rfl⟩
  rw [← hts'] at HRC HCU
  have HF' : Hid (Fine G ts') := Lib.hid (by rw [hts']; exact fun x hx => HB6.out.2.2.2.1 x (List.mem_of_mem_take hx))
  obtain ⟨gone, hgone⟩ : ∃ v : Int, v = (ts.length : Int) - (leftT nn ts : Int) := ⟨_, rfl⟩
  rw [← hgone] at HRC HCU
  clear hl65 hts' hgone
  obtain ⟨x0, x1, x2, x3⟩ := cells2 HB6.out.2.1
  go_wp2_with fail
  refine (HRC.out _ HB6.out.2.2.1).mono ?_
  rintro e w7 ⟨V', rfl, hr7, hb7⟩
  obtain ⟨av', cv', rfl⟩ := hr7.form
  have HB7 := Lib.hid ((HB6.out.below hb7).alloc (.cells #[.int .i64 room, .slice av' ts'.length cv'] 29))
  have HR7 := Lib.hid (hr7.below ((Below.refl _ _).alloc (Nat.le_refl _) (.cells #[.int .i64 room, .slice av' ts'.length cv'] 29)))
  have HN7 := Lib.hid (box_new w7 #[.int .i64 room, .slice av' ts'.length cv'] 29)
  have HX7 := Lib.hid (box_alloc (o' := .cells #[.int .i64 room, .slice av' ts'.length cv'] 29) (box_below HX6.out hb7))
  clear hb7 hr7 x0 x1 x2 x3 c0 c1 c2 c3 c4 c5 c6 c7 c8 c9 c10 c11 c12 c13 c14 c15 c16 n0 n1 n2 n3 n4 n5 n6 n7 n8 n9 n10 n11
  obtain ⟨c0, c1, c2, c3, c4, c5, c6, c7, c8, c9, c10, c11, c12, c13, c14, c15, c16⟩ := cells17 HX7.out
  go_wp2_with fail
  refine (HCU.out _ HB7.out.1 HB7.out.bel.size).mono ?_
  rintro e w8 ⟨rfl, hd8, hk8, hdist8⟩
  have HX8 := Lib.hid (HB7.out.next HR7.out HF'.out hd8 hk8 hdist8)
  obtain ⟨z0, z1, z2, z3⟩ := cells2 (HB7.out.1.box hk8 HN7.out (by decide) (by decide))
  obtain ⟨x0, x1, x2, x3⟩ := cells2 (HB7.out.1.box hk8 HB7.out.2.1 (by decide) (by decide))
  clear hd8 hk8 hdist8 c0 c1 c2 c3 c4 c5 c6 c7 c8 c9 c10 c11 c12 c13 c14 c15 c16
  go_wp2_with fail
  go_meet
  case rel => exact Lib.hid ⟨_, _, HX8.out⟩
end Go.Proofs.Ytghimladdioajaa
namespace Go.Proofs.Ytghimladdioajaa
open Go Go.RowKit
set_option linter.unusedVariables false
set_option linter.unusedSimpArgs false
set_option maxRecDepth 100000
set_option maxHeartbeats 12800000 in
theorem plays_sw {G : Tm → Bool} (HG : Hid (GoodFn G)) {w w2 wr w6 : World} (HM : Hid (MaxV w)) {p m q : Nat} {room : Int} (HRO : Hid (1 ≤ room ∧ room ≤ 65536)) {av : Option Addr} {cv : Nat} {ts : List Tm} (HB6 : Hid (BothV G w p m w2.heap.size room (.slice av ts.length cv) ts w6)) {kd nn k1 : Int} {s1 t1 l1 : ByteArray} {k2 : Int} {s2 t2 l2 : ByteArray} {k3 : Int} {s3 t3 l3 : ByteArray} {ka kb kc kx1 : Int} {xs1 xt1 xl1 : ByteArray} {kx2 : Int} {xs2 xt2 xl2 : ByteArray} {kx3 : Int} {xs3 xt3 xl3 : ByteArray} (HX6 : Hid (w6.heap[wr.heap.size]? = some (.cells #[.int .u8 kd, .int .i64 nn, .int .i64 k1, .string s1, .string t1, .string l1, .int .i64 k2, .string s2, .string t2, .string l2, .int .i64 k3, .string s3, .string t3, .string l3, .int .i64 ka, .int .i64 kb, .int .i64 kc] 67 (0, 0)))) (HT6 : Hid (w6.heap[q]? = some (.cells #[.int .i64 kx1, .string xs1, .string xt1, .string xl1, .int .i64 kx2, .string xs2, .string xt2, .string xl2, .int .i64 kx3, .string xs3, .string xt3, .string xl3] 51 (0, 0)))) {X1 X2 X3 : Tm} (HSK : Hid ((Small X1 ∧ Small X2 ∧ Small X3) ∧ KeyT X1 ∧ KeyT X2 ∧ KeyT X3)) (HV : Hid (kx1 = kindV X1 ∧ xs1 = text0 X1 ∧ xt1 = text1 X1 ∧ xl1 = text2 X1 ∧ kx2 = kindV X2 ∧ xs2 = text0 X2 ∧ xt2 = text1 X2 ∧ xl2 = text2 X2 ∧ kx3 = kindV X3 ∧ xs3 = text0 X3 ∧ xt3 = text1 X3 ∧ xl3 = text2 X3)) {xv : Value} (HXV : Hid (xv = tmV X3)) (HKD : Hid (0 ≤ kd ∧ kd ≤ 255))
    {sl0 sl1 sl2 sl3 sl4 sl6 sl8 sl12 sl13 sl14 sl15 sl16 sl17 sl18 sl19 sl20 sl21 sl22 sl23 sl24 sl25 sl26 sl27 sl28 sl29 sl30 sl31 sl32 sl33 sl34 sl35 sl36 sl37 sl38 sl39 sl40 sl41 sl42 sl43 sl44 sl45 sl46 sl47 sl48 sl49 sl50 sl51 sl52 sl53 sl54 sl55 sl56 sl57 sl58 sl59 sl60 sl61 sl62 sl63 sl64 sl65 sl66 sl67 sl68 sl69 sl70 sl71 sl72 sl73 sl74 sl75 sl76 sl77 sl78 sl79 sl80 sl81 sl82 sl83 sl84 sl85 sl86 sl87 sl88 sl89 sl90 sl91 sl92 sl93 sl94 sl95 sl96 sl97 sl98 sl99 sl100 sl101 sl102 sl103 sl104 sl105 sl106 sl107 sl108 sl109 sl111 sl112 sl113 sl114 sl115 sl116 sl117 sl118 sl119 sl120 sl121 sl122 sl123 sl124 sl125 sl126 sl127 sl128 sl129 sl130 sl131 sl132 sl133 sl134 sl135 sl136 sl137 sl138 sl139 sl140 sl141 sl142 sl143 sl144 sl145 sl146 sl147 sl148 sl149 sl150 sl151 sl152 sl153 sl154 sl155 sl156 sl157 sl158 sl159 sl160 sl161 sl162 sl163 sl164 sl165 sl166 sl167 sl168 sl169 sl170 sl171 sl172 sl173 sl174 sl175 sl176 sl177 sl178 sl179 sl180 sl181 sl182 sl183 sl184 sl185 sl186 sl187 sl188 sl189 sl190 sl191 sl192 sl193 sl194 sl195 sl196 sl197 sl198 sl199 sl200 sl201 sl202 sl203 sl204 sl205 sl206 sl207 sl208 sl209 sl210 sl211 sl212 sl213 sl214 sl215 sl216 sl217 sl218 sl219 sl220 sl221 sl222 sl223 sl224 sl225 sl226 sl227 sl228 sl229 sl230 sl231 sl232 sl233 sl234 sl235 sl236 sl237 sl238 sl239 sl240 sl241 sl242 sl243 sl244 sl245 sl246 sl247 sl248 sl249 sl250 sl251 sl252 sl253 sl254 sl255 sl256 sl257 sl258 sl259 sl260 sl261 sl262 sl263 sl264 sl265 sl266 sl267 sl268 sl269 sl270 sl271 sl272 sl273 sl274 sl275 sl276 sl277 sl278 sl279 sl280 sl281 sl282 sl283 sl284 sl285 sl286 sl287 sl288 sl289 sl290 sl291 sl292 sl293 sl294 sl295 sl296 sl297 sl298 sl299 sl300 sl301 sl302 sl303 sl304 sl305 sl306 sl307 : Value} {K : Act → World → Prop} {Q' : Exit → Act → World → Prop} (hP : ∀ c (a a' : Act) w, a.defers = a'.defers → Q' (.panic c) a w → Q' (.panic c) a' w) (hrest : ∀ (ul4 ul12 ul13 ul14 ul15 ul16 ul17 ul18 ul19 ul20 ul21 ul22 ul23 ul24 ul25 ul26 ul27 ul28 ul29 ul30 ul31 ul32 ul33 ul111 ul112 ul113 ul114 ul115 ul116 ul117 ul118 ul119 ul120 ul121 ul122 ul123 ul124 ul125 ul126 ul127 ul128 ul129 ul130 ul131 ul132 ul133 ul134 ul135 ul136 ul137 ul138 ul139 ul140 ul141 ul142 ul143 ul144 ul145 ul146 ul147 ul148 ul149 ul150 ul151 ul152 ul153 ul154 ul155 ul156 ul157 ul158 ul159 ul160 ul161 ul162 ul163 ul164 ul165 ul166 ul167 ul168 ul169 ul170 ul171 ul172 ul173 ul174 ul175 ul176 ul177 ul178 ul179 ul180 ul181 ul182 ul183 ul184 ul185 ul186 ul187 ul188 ul189 ul190 ul191 ul192 ul193 ul194 ul195 ul196 ul197 ul198 ul199 ul200 ul201 ul202 ul203 ul204 ul205 ul206 ul207 ul208 ul209 ul210 ul211 ul212 ul213 ul214 ul215 ul216 ul217 ul218 ul219 ul220 ul221 ul222 ul223 ul224 ul225 ul226 ul227 ul228 ul229 ul230 ul231 ul232 ul233 ul234 ul235 ul236 ul237 ul238 ul239 ul240 ul241 ul242 ul243 ul244 ul245 ul246 ul247 ul248 ul249 ul250 ul251 ul252 ul253 ul254 ul255 ul256 ul257 ul258 ul259 ul260 ul261 ul262 ul263 ul264 ul265 ul266 ul267 ul268 ul269 ul270 ul271 ul272 ul273 ul274 ul275 ul276 ul277 ul278 ul279 ul280 ul281 ul282 ul283 ul284 ul285 ul286 ul287 ul288 ul289 ul290 ul291 ul292 ul293 ul294 ul295 ul296 ul297 ul298 ul299 ul300 ul301 ul302 : Value) (w' : World), Hid (∃ ts' V', BothV G w p m w2.heap.size room V' ts' w') → K ⟨(sl0 :: sl1 :: sl2 :: sl3 :: ul4 :: .pointer (some ⟨p, 0, none⟩) :: sl6 :: .pointer (some ⟨w2.heap.size, 0, none⟩) :: sl8 :: .pointer (some ⟨wr.heap.size, 0, none⟩) :: .pointer (some ⟨q, 0, none⟩) :: xv :: ul12 :: ul13 :: ul14 :: ul15 :: ul16 :: ul17 :: ul18 :: ul19 :: ul20 :: ul21 :: ul22 :: ul23 :: ul24 :: ul25 :: ul26 :: ul27 :: ul28 :: ul29 :: ul30 :: ul31 :: ul32 :: ul33 :: sl34 :: sl35 :: sl36 :: sl37 :: sl38 :: sl39 :: sl40 :: sl41 :: sl42 :: sl43 :: sl44 :: sl45 :: sl46 :: sl47 :: sl48 :: sl49 :: sl50 :: sl51 :: sl52 :: sl53 :: sl54 :: sl55 :: sl56 :: sl57 :: sl58 :: sl59 :: sl60 :: sl61 :: sl62 :: sl63 :: sl64 :: sl65 :: sl66 :: sl67 :: sl68 :: sl69 :: sl70 :: sl71 :: sl72 :: sl73 :: sl74 :: sl75 :: sl76 :: sl77 :: sl78 :: sl79 :: sl80 :: sl81 :: sl82 :: sl83 :: sl84 :: sl85 :: sl86 :: sl87 :: sl88 :: sl89 :: sl90 :: sl91 :: sl92 :: sl93 :: sl94 :: sl95 :: sl96 :: sl97 :: sl98 :: sl99 :: sl100 :: sl101 :: sl102 :: sl103 :: sl104 :: sl105 :: sl106 :: sl107 :: sl108 :: sl109 :: .int .u8 (kd % 7) :: ul111 :: ul112 :: ul113 :: ul114 :: ul115 :: ul116 :: ul117 :: ul118 :: ul119 :: ul120 :: ul121 :: ul122 :: ul123 :: ul124 :: ul125 :: ul126 :: ul127 :: ul128 :: ul129 :: ul130 :: ul131 :: ul132 :: ul133 :: ul134 :: ul135 :: ul136 :: ul137 :: ul138 :: ul139 :: ul140 :: ul141 :: ul142 :: ul143 :: ul144 :: ul145 :: ul146 :: ul147 :: ul148 :: ul149 :: ul150 :: ul151 :: ul152 :: ul153 :: ul154 :: ul155 :: ul156 :: ul157 :: ul158 :: ul159 :: ul160 :: ul161 :: ul162 :: ul163 :: ul164 :: ul165 :: ul166 :: ul167 :: ul168 :: ul169 :: ul170 :: ul171 :: ul172 :: ul173 :: ul174 :: ul175 :: ul176 :: ul177 :: ul178 :: ul179 :: ul180 :: ul181 :: ul182 :: ul183 :: ul184 :: ul185 :: ul186 :: ul187 :: ul188 :: ul189 :: ul190 :: ul191 :: ul192 :: ul193 :: ul194 :: ul195 :: ul196 :: ul197 :: ul198 :: ul199 :: ul200 :: ul201 :: ul202 :: ul203 :: ul204 :: ul205 :: ul206 :: ul207 :: ul208 :: ul209 :: ul210 :: ul211 :: ul212 :: ul213 :: ul214 :: ul215 :: ul216 :: ul217 :: ul218 :: ul219 :: ul220 :: ul221 :: ul222 :: ul223 :: ul224 :: ul225 :: ul226 :: ul227 :: ul228 :: ul229 :: ul230 :: ul231 :: ul232 :: ul233 :: ul234 :: ul235 :: ul236 :: ul237 :: ul238 :: ul239 :: ul240 :: ul241 :: ul242 :: ul243 :: ul244 :: ul245 :: ul246 :: ul247 :: ul248 :: ul249 :: ul250 :: ul251 :: ul252 :: ul253 :: ul254 :: ul255 :: ul256 :: ul257 :: ul258 :: ul259 :: ul260 :: ul261 :: ul262 :: ul263 :: ul264 :: ul265 :: ul266 :: ul267 :: ul268 :: ul269 :: ul270 :: ul271 :: ul272 :: ul273 :: ul274 :: ul275 :: ul276 :: ul277 :: ul278 :: ul279 :: ul280 :: ul281 :: ul282 :: ul283 :: ul284 :: ul285 :: ul286 :: ul287 :: ul288 :: ul289 :: ul290 :: ul291 :: ul292 :: ul293 :: ul294 :: ul295 :: ul296 :: ul297 :: ul298 :: ul299 :: ul300 :: ul301 :: ul302 :: sl303 :: sl304 :: sl305 :: sl306 :: sl307 :: []).toArray, []⟩ w') :
    Code.wp Try.prog ((Try.f6.body.bind (findC (isBlk 2))).getD .skip) (Exit.then K Q') ⟨(sl0 :: sl1 :: sl2 :: sl3 :: sl4 :: .pointer (some ⟨p, 0, none⟩) :: sl6 :: .pointer (some ⟨w2.heap.size, 0, none⟩) :: sl8 :: .pointer (some ⟨wr.heap.size, 0, none⟩) :: .pointer (some ⟨q, 0, none⟩) :: xv :: sl12 :: sl13 :: sl14 :: sl15 :: sl16 :: sl17 :: sl18 :: sl19 :: sl20 :: sl21 :: sl22 :: sl23 :: sl24 :: sl25 :: sl26 :: sl27 :: sl28 :: sl29 :: sl30 :: sl31 :: sl32 :: sl33 :: sl34 :: sl35 :: sl36 :: sl37 :: sl38 :: sl39 :: sl40 :: sl41 :: sl42 :: sl43 :: sl44 :: sl45 :: sl46 :: sl47 :: sl48 :: sl49 :: sl50 :: sl51 :: sl52 :: sl53 :: sl54 :: sl55 :: sl56 :: sl57 :: sl58 :: sl59 :: sl60 :: sl61 :: sl62 :: sl63 :: sl64 :: sl65 :: sl66 :: sl67 :: sl68 :: sl69 :: sl70 :: sl71 :: sl72 :: sl73 :: sl74 :: sl75 :: sl76 :: sl77 :: sl78 :: sl79 :: sl80 :: sl81 :: sl82 :: sl83 :: sl84 :: sl85 :: sl86 :: sl87 :: sl88 :: sl89 :: sl90 :: sl91 :: sl92 :: sl93 :: sl94 :: sl95 :: sl96 :: sl97 :: sl98 :: sl99 :: sl100 :: sl101 :: sl102 :: sl103 :: sl104 :: sl105 :: sl106 :: sl107 :: sl108 :: sl109 :: .int .u8 (kd % 7) :: sl111 :: sl112 :: sl113 :: sl114 :: sl115 :: sl116 :: sl117 :: sl118 :: sl119 :: sl120 :: sl121 :: sl122 :: sl123 :: sl124 :: sl125 :: sl126 :: sl127 :: sl128 :: sl129 :: sl130 :: sl131 :: sl132 :: sl133 :: sl134 :: sl135 :: sl136 :: sl137 :: sl138 :: sl139 :: sl140 :: sl141 :: sl142 :: sl143 :: sl144 :: sl145 :: sl146 :: sl147 :: sl148 :: sl149 :: sl150 :: sl151 :: sl152 :: sl153 :: sl154 :: sl155 :: sl156 :: sl157 :: sl158 :: sl159 :: sl160 :: sl161 :: sl162 :: sl163 :: sl164 :: sl165 :: sl166 :: sl167 :: sl168 :: sl169 :: sl170 :: sl171 :: sl172 :: sl173 :: sl174 :: sl175 :: sl176 :: sl177 :: sl178 :: sl179 :: sl180 :: sl181 :: sl182 :: sl183 :: sl184 :: sl185 :: sl186 :: sl187 :: sl188 :: sl189 :: sl190 :: sl191 :: sl192 :: sl193 :: sl194 :: sl195 :: sl196 :: sl197 :: sl198 :: sl199 :: sl200 :: sl201 :: sl202 :: sl203 :: sl204 :: sl205 :: sl206 :: sl207 :: sl208 :: sl209 :: sl210 :: sl211 :: sl212 :: sl213 :: sl214 :: sl215 :: sl216 :: sl217 :: sl218 :: sl219 :: sl220 :: sl221 :: sl222 :: sl223 :: sl224 :: sl225 :: sl226 :: sl227 :: sl228 :: sl229 :: sl230 :: sl231 :: sl232 :: sl233 :: sl234 :: sl235 :: sl236 :: sl237 :: sl238 :: sl239 :: sl240 :: sl241 :: sl242 :: sl243 :: sl244 :: sl245 :: sl246 :: sl247 :: sl248 :: sl249 :: sl250 :: sl251 :: sl252 :: sl253 :: sl254 :: sl255 :: sl256 :: sl257 :: sl258 :: sl259 :: sl260 :: sl261 :: sl262 :: sl263 :: sl264 :: sl265 :: sl266 :: sl267 :: sl268 :: sl269 :: sl270 :: sl271 :: sl272 :: sl273 :: sl274 :: sl275 :: sl276 :: sl277 :: sl278 :: sl279 :: sl280 :: sl281 :: sl282 :: sl283 :: sl284 :: sl285 :: sl286 :: sl287 :: sl288 :: sl289 :: sl290 :: sl291 :: sl292 :: sl293 :: sl294 :: sl295 :: sl296 :: sl297 :: sl298 :: sl299 :: sl300 :: sl301 :: sl302 :: sl303 :: sl304 :: sl305 :: sl306 :: sl307 :: []).toArray, []⟩ w6 := by
  refine wp_cut (fun a' w' => (∃ ul4 ul12 ul13 ul14 ul15 ul16 ul17 ul18 ul19 ul20 ul21 ul22 ul23 ul24 ul25 ul26 ul27 ul28 ul29 ul30 ul31 ul32 ul33 ul111 ul112 ul113 ul114 ul115 ul116 ul117 ul118 ul119 ul120 ul121 ul122 ul123 ul124 ul125 ul126 ul127 ul128 ul129 ul130 ul131 ul132 ul133 ul134 ul135 ul136 ul137 ul138 ul139 ul140 ul141 ul142 ul143 ul144 ul145 ul146 ul147 ul148 ul149 ul150 ul151 ul152 ul153 ul154 ul155 ul156 ul157 ul158 ul159 ul160 ul161 ul162 ul163 ul164 ul165 ul166 ul167 ul168 ul169 ul170 ul171 ul172 ul173 ul174 ul175 ul176 ul177 ul178 ul179 ul180 ul181 ul182 ul183 ul184 ul185 ul186 ul187 ul188 ul189 ul190 ul191 ul192 ul193 ul194 ul195 ul196 ul197 ul198 ul199 ul200 ul201 ul202 ul203 ul204 ul205 ul206 ul207 ul208 ul209 ul210 ul211 ul212 ul213 ul214 ul215 ul216 ul217 ul218 ul219 ul220 ul221 ul222 ul223 ul224 ul225 ul226 ul227 ul228 ul229 ul230 ul231 ul232 ul233 ul234 ul235 ul236 ul237 ul238 ul239 ul240 ul241 ul242 ul243 ul244 ul245 ul246 ul247 ul248 ul249 ul250 ul251 ul252 ul253 ul254 ul255 ul256 ul257 ul258 ul259 ul260 ul261 ul262 ul263 ul264 ul265 ul266 ul267 ul268 ul269 ul270 ul271 ul272 ul273 ul274 ul275 ul276 ul277 ul278 ul279 ul280 ul281 ul282 ul283 ul284 ul285 ul286 ul287 ul288 ul289 ul290 ul291 ul292 ul293 ul294 ul295 ul296 ul297 ul298 ul299 ul300 ul301 ul302 : Value, Hid (∃ ts' V', BothV G w p m w2.heap.size room V' ts' w') ∧ a' = ⟨(sl0 :: sl1 :: sl2 :: sl3 :: ul4 :: .pointer (some ⟨p, 0, none⟩) :: sl6 :: .pointer (some ⟨w2.heap.size, 0, none⟩) :: sl8 :: .pointer (some ⟨wr.heap.size, 0, none⟩) :: .pointer (some ⟨q, 0, none⟩) :: xv :: ul12 :: ul13 :: ul14 :: ul15 :: ul16 :: ul17 :: ul18 :: ul19 :: ul20 :: ul21 :: ul22 :: ul23 :: ul24 :: ul25 :: ul26 :: ul27 :: ul28 :: ul29 :: ul30 :: ul31 :: ul32 :: ul33 :: sl34 :: sl35 :: sl36 :: sl37 :: sl38 :: sl39 :: sl40 :: sl41 :: sl42 :: sl43 :: sl44 :: sl45 :: sl46 :: sl47 :: sl48 :: sl49 :: sl50 :: sl51 :: sl52 :: sl53 :: sl54 :: sl55 :: sl56 :: sl57 :: sl58 :: sl59 :: sl60 :: sl61 :: sl62 :: sl63 :: sl64 :: sl65 :: sl66 :: sl67 :: sl68 :: sl69 :: sl70 :: sl71 :: sl72 :: sl73 :: sl74 :: sl75 :: sl76 :: sl77 :: sl78 :: sl79 :: sl80 :: sl81 :: sl82 :: sl83 :: sl84 :: sl85 :: sl86 :: sl87 :: sl88 :: sl89 :: sl90 :: sl91 :: sl92 :: sl93 :: sl94 :: sl95 :: sl96 :: sl97 :: sl98 :: sl99 :: sl100 :: sl101 :: sl102 :: sl103 :: sl104 :: sl105 :: sl106 :: sl107 :: sl108 :: sl109 :: .int .u8 (kd % 7) :: ul111 :: ul112 :: ul113 :: ul114 :: ul115 :: ul116 :: ul117 :: ul118 :: ul119 :: ul120 :: ul121 :: ul122 :: ul123 :: ul124 :: ul125 :: ul126 :: ul127 :: ul128 :: ul129 :: ul130 :: ul131 :: ul132 :: ul133 :: ul134 :: ul135 :: ul136 :: ul137 :: ul138 :: ul139 :: ul140 :: ul141 :: ul142 :: ul143 :: ul144 :: ul145 :: ul146 :: ul147 :: ul148 :: ul149 :: ul150 :: ul151 :: ul152 :: ul153 :: ul154 :: ul155 :: ul156 :: ul157 :: ul158 :: ul159 :: ul160 :: ul161 :: ul162 :: ul163 :: ul164 :: ul165 :: ul166 :: ul167 :: ul168 :: ul169 :: ul170 :: ul171 :: ul172 :: ul173 :: ul174 :: ul175 :: ul176 :: ul177 :: ul178 :: ul179 :: ul180 :: ul181 :: ul182 :: ul183 :: ul184 :: ul185 :: ul186 :: ul187 :: ul188 :: ul189 :: ul190 :: ul191 :: ul192 :: ul193 :: ul194 :: ul195 :: ul196 :: ul197 :: ul198 :: ul199 :: ul200 :: ul201 :: ul202 :: ul203 :: ul204 :: ul205 :: ul206 :: ul207 :: ul208 :: ul209 :: ul210 :: ul211 :: ul212 :: ul213 :: ul214 :: ul215 :: ul216 :: ul217 :: ul218 :: ul219 :: ul220 :: ul221 :: ul222 :: ul223 :: ul224 :: ul225 :: ul226 :: ul227 :: ul228 :: ul229 :: ul230 :: ul231 :: ul232 :: ul233 :: ul234 :: ul235 :: ul236 :: ul237 :: ul238 :: ul239 :: ul240 :: ul241 :: ul242 :: ul243 :: ul244 :: ul245 :: ul246 :: ul247 :: ul248 :: ul249 :: ul250 :: ul251 :: ul252 :: ul253 :: ul254 :: ul255 :: ul256 :: ul257 :: ul258 :: ul259 :: ul260 :: ul261 :: ul262 :: ul263 :: ul264 :: ul265 :: ul266 :: ul267 :: ul268 :: ul269 :: ul270 :: ul271 :: ul272 :: ul273 :: ul274 :: ul275 :: ul276 :: ul277 :: ul278 :: ul279 :: ul280 :: ul281 :: ul282 :: ul283 :: ul284 :: ul285 :: ul286 :: ul287 :: ul288 :: ul289 :: ul290 :: ul291 :: ul292 :: ul293 :: ul294 :: ul295 :: ul296 :: ul297 :: ul298 :: ul299 :: ul300 :: ul301 :: ul302 :: sl303 :: sl304 :: sl305 :: sl306 :: sl307 :: []).toArray, []⟩)) (fun a' w' h => ?_) (fun J K' h1 h2 => ?_)
  · obtain ⟨ul4, h⟩ := h
    obtain ⟨ul12, h⟩ := h
    obtain ⟨ul13, h⟩ := h
    obtain ⟨ul14, h⟩ := h
    obtain ⟨ul15, h⟩ := h
    obtain ⟨ul16, h⟩ := h
    obtain ⟨ul17, h⟩ := h
    obtain ⟨ul18, h⟩ := h
    obtain ⟨ul19, h⟩ := h
    obtain ⟨ul20, h⟩ := h
    obtain ⟨ul21, h⟩ := h
    obtain ⟨ul22, h⟩ := h
    obtain ⟨ul23, h⟩ := h
    obtain ⟨ul24, h⟩ := h
    obtain ⟨ul25, h⟩ := h
    obtain ⟨ul26, h⟩ := h
    obtain ⟨ul27, h⟩ := h
    obtain ⟨ul28, h⟩ := h
    obtain ⟨ul29, h⟩ := h
    obtain ⟨ul30, h⟩ := h
    obtain ⟨ul31, h⟩ := h
    obtain ⟨ul32, h⟩ := h
    obtain ⟨ul33, h⟩ := h
    obtain ⟨ul111, h⟩ := h
    obtain ⟨ul112, h⟩ := h
    obtain ⟨ul113, h⟩ := h
    obtain ⟨ul114, h⟩ := h
    obtain ⟨ul115, h⟩ := h
    obtain ⟨ul116, h⟩ := h
    obtain ⟨ul117, h⟩ := h
    obtain ⟨ul118, h⟩ := h
    obtain ⟨ul119, h⟩ := h
    obtain ⟨ul120, h⟩ := h
    obtain ⟨ul121, h⟩ := h
    obtain ⟨ul122, h⟩ := h
    obtain ⟨ul123, h⟩ := h
    obtain ⟨ul124, h⟩ := h
    obtain ⟨ul125, h⟩ := h
    obtain ⟨ul126, h⟩ := h
    obtain ⟨ul127, h⟩ := h
    obtain ⟨ul128, h⟩ := h
    obtain ⟨ul129, h⟩ := h
    obtain ⟨ul130, h⟩ := h
    obtain ⟨ul131, h⟩ := h
    obtain ⟨ul132, h⟩ := h
    obtain ⟨ul133, h⟩ := h
    obtain ⟨ul134, h⟩ := h
    obtain ⟨ul135, h⟩ := h
    obtain ⟨ul136, h⟩ := h
    obtain ⟨ul137, h⟩ := h
    obtain ⟨ul138, h⟩ := h
    obtain ⟨ul139, h⟩ := h
    obtain ⟨ul140, h⟩ := h
    obtain ⟨ul141, h⟩ := h
    obtain ⟨ul142, h⟩ := h
    obtain ⟨ul143, h⟩ := h
    obtain ⟨ul144, h⟩ := h
    obtain ⟨ul145, h⟩ := h
    obtain ⟨ul146, h⟩ := h
    obtain ⟨ul147, h⟩ := h
    obtain ⟨ul148, h⟩ := h
    obtain ⟨ul149, h⟩ := h
    obtain ⟨ul150, h⟩ := h
    obtain ⟨ul151, h⟩ := h
    obtain ⟨ul152, h⟩ := h
    obtain ⟨ul153, h⟩ := h
    obtain ⟨ul154, h⟩ := h
    obtain ⟨ul155, h⟩ := h
    obtain ⟨ul156, h⟩ := h
    obtain ⟨ul157, h⟩ := h
    obtain ⟨ul158, h⟩ := h
    obtain ⟨ul159, h⟩ := h
    obtain ⟨ul160, h⟩ := h
    obtain ⟨ul161, h⟩ := h
    obtain ⟨ul162, h⟩ := h
    obtain ⟨ul163, h⟩ := h
    obtain ⟨ul164, h⟩ := h
    obtain ⟨ul165, h⟩ := h
    obtain ⟨ul166, h⟩ := h
    obtain ⟨ul167, h⟩ := h
    obtain ⟨ul168, h⟩ := h
    obtain ⟨ul169, h⟩ := h
    obtain ⟨ul170, h⟩ := h
    obtain ⟨ul171, h⟩ := h
    obtain ⟨ul172, h⟩ := h
    obtain ⟨ul173, h⟩ := h
    obtain ⟨ul174, h⟩ := h
    obtain ⟨ul175, h⟩ := h
    obtain ⟨ul176, h⟩ := h
    obtain ⟨ul177, h⟩ := h
    obtain ⟨ul178, h⟩ := h
    obtain ⟨ul179, h⟩ := h
    obtain ⟨ul180, h⟩ := h
    obtain ⟨ul181, h⟩ := h
    obtain ⟨ul182, h⟩ := h
    obtain ⟨ul183, h⟩ := h
    obtain ⟨ul184, h⟩ := h
    obtain ⟨ul185, h⟩ := h
    obtain ⟨ul186, h⟩ := h
    obtain ⟨ul187, h⟩ := h
    obtain ⟨ul188, h⟩ := h
    obtain ⟨ul189, h⟩ := h
    obtain ⟨ul190, h⟩ := h
    obtain ⟨ul191, h⟩ := h
    obtain ⟨ul192, h⟩ := h
    obtain ⟨ul193, h⟩ := h
    obtain ⟨ul194, h⟩ := h
    obtain ⟨ul195, h⟩ := h
    obtain ⟨ul196, h⟩ := h
    obtain ⟨ul197, h⟩ := h
    obtain ⟨ul198, h⟩ := h
    obtain ⟨ul199, h⟩ := h
    obtain ⟨ul200, h⟩ := h
    obtain ⟨ul201, h⟩ := h
    obtain ⟨ul202, h⟩ := h
    obtain ⟨ul203, h⟩ := h
    obtain ⟨ul204, h⟩ := h
    obtain ⟨ul205, h⟩ := h
    obtain ⟨ul206, h⟩ := h
    obtain ⟨ul207, h⟩ := h
    obtain ⟨ul208, h⟩ := h
    obtain ⟨ul209, h⟩ := h
    obtain ⟨ul210, h⟩ := h
    obtain ⟨ul211, h⟩ := h
    obtain ⟨ul212, h⟩ := h
    obtain ⟨ul213, h⟩ := h
    obtain ⟨ul214, h⟩ := h
    obtain ⟨ul215, h⟩ := h
    obtain ⟨ul216, h⟩ := h
    obtain ⟨ul217, h⟩ := h
    obtain ⟨ul218, h⟩ := h
    obtain ⟨ul219, h⟩ := h
    obtain ⟨ul220, h⟩ := h
    obtain ⟨ul221, h⟩ := h
    obtain ⟨ul222, h⟩ := h
    obtain ⟨ul223, h⟩ := h
    obtain ⟨ul224, h⟩ := h
    obtain ⟨ul225, h⟩ := h
    obtain ⟨ul226, h⟩ := h
    obtain ⟨ul227, h⟩ := h
    obtain ⟨ul228, h⟩ := h
    obtain ⟨ul229, h⟩ := h
    obtain ⟨ul230, h⟩ := h
    obtain ⟨ul231, h⟩ := h
    obtain ⟨ul232, h⟩ := h
    obtain ⟨ul233, h⟩ := h
    obtain ⟨ul234, h⟩ := h
    obtain ⟨ul235, h⟩ := h
    obtain ⟨ul236, h⟩ := h
    obtain ⟨ul237, h⟩ := h
    obtain ⟨ul238, h⟩ := h
    obtain ⟨ul239, h⟩ := h
    obtain ⟨ul240, h⟩ := h
    obtain ⟨ul241, h⟩ := h
    obtain ⟨ul242, h⟩ := h
    obtain ⟨ul243, h⟩ := h
    obtain ⟨ul244, h⟩ := h
    obtain ⟨ul245, h⟩ := h
    obtain ⟨ul246, h⟩ := h
    obtain ⟨ul247, h⟩ := h
    obtain ⟨ul248, h⟩ := h
    obtain ⟨ul249, h⟩ := h
    obtain ⟨ul250, h⟩ := h
    obtain ⟨ul251, h⟩ := h
    obtain ⟨ul252, h⟩ := h
    obtain ⟨ul253, h⟩ := h
    obtain ⟨ul254, h⟩ := h
    obtain ⟨ul255, h⟩ := h
    obtain ⟨ul256, h⟩ := h
    obtain ⟨ul257, h⟩ := h
    obtain ⟨ul258, h⟩ := h
    obtain ⟨ul259, h⟩ := h
    obtain ⟨ul260, h⟩ := h
    obtain ⟨ul261, h⟩ := h
    obtain ⟨ul262, h⟩ := h
    obtain ⟨ul263, h⟩ := h
    obtain ⟨ul264, h⟩ := h
    obtain ⟨ul265, h⟩ := h
    obtain ⟨ul266, h⟩ := h
    obtain ⟨ul267, h⟩ := h
    obtain ⟨ul268, h⟩ := h
    obtain ⟨ul269, h⟩ := h
    obtain ⟨ul270, h⟩ := h
    obtain ⟨ul271, h⟩ := h
    obtain ⟨ul272, h⟩ := h
    obtain ⟨ul273, h⟩ := h
    obtain ⟨ul274, h⟩ := h
    obtain ⟨ul275, h⟩ := h
    obtain ⟨ul276, h⟩ := h
    obtain ⟨ul277, h⟩ := h
    obtain ⟨ul278, h⟩ := h
    obtain ⟨ul279, h⟩ := h
    obtain ⟨ul280, h⟩ := h
    obtain ⟨ul281, h⟩ := h
    obtain ⟨ul282, h⟩ := h
    obtain ⟨ul283, h⟩ := h
    obtain ⟨ul284, h⟩ := h
    obtain ⟨ul285, h⟩ := h
    obtain ⟨ul286, h⟩ := h
    obtain ⟨ul287, h⟩ := h
    obtain ⟨ul288, h⟩ := h
    obtain ⟨ul289, h⟩ := h
    obtain ⟨ul290, h⟩ := h
    obtain ⟨ul291, h⟩ := h
    obtain ⟨ul292, h⟩ := h
    obtain ⟨ul293, h⟩ := h
    obtain ⟨ul294, h⟩ := h
    obtain ⟨ul295, h⟩ := h
    obtain ⟨ul296, h⟩ := h
    obtain ⟨ul297, h⟩ := h
    obtain ⟨ul298, h⟩ := h
    obtain ⟨ul299, h⟩ := h
    obtain ⟨ul300, h⟩ := h
    obtain ⟨ul301, h⟩ := h
    obtain ⟨ul302, h⟩ := h
    obtain ⟨h, rfl⟩ := h
    exact hrest _ _ _ _ _ _ _ _ _ _ _ _ _ _ _ _ _ _ _ _ _ _ _ _ _ _ _ _ _ _ _ _ _ _ _ _ _ _ _ _ _ _ _ _ _ _ _ _ _ _ _ _ _ _ _ _ _ _ _ _ _ _ _ _ _ _ _ _ _ _ _ _ _ _ _ _ _ _ _ _ _ _ _ _ _ _ _ _ _ _ _ _ _ _ _ _ _ _ _ _ _ _ _ _ _ _ _ _ _ _ _ _ _ _ _ _ _ _ _ _ _ _ _ _ _ _ _ _ _ _ _ _ _ _ _ _ _ _ _ _ _ _ _ _ _ _ _ _ _ _ _ _ _ _ _ _ _ _ _ _ _ _ _ _ _ _ _ _ _ _ _ _ _ _ _ _ _ _ _ _ _ _ _ _ _ _ _ _ _ _ _ _ _ _ _ _ _ _ _ _ _ _ _ _ _ _ _ _ _ _ _ _ _ _ _ w' h
  · have hk0 := HKD.out.1
    rcases (by omega : kd % 7 = 0 ∨ kd % 7 = 1 ∨ kd % 7 = 2 ∨ kd % 7 = 3 ∨ kd % 7 = 4 ∨ kd % 7 = 5 ∨ kd % 7 = 6) with hkm | hkm | hkm | hkm | hkm | hkm | hkm
    · exact plays_arm0 HG HM HRO HB6 HX6 HT6 HSK HV HXV HKD hkm J K' Q' hP h1 h2
    · exact plays_arm1 HG HM HRO HB6 HX6 HT6 HSK HV HXV HKD hkm J K' Q' hP h1 h2
    · exact plays_arm2 HG HM HRO HB6 HX6 HT6 HSK HV HXV HKD hkm J K' Q' hP h1 h2
    · exact plays_arm3 HG HM HRO HB6 HX6 HT6 HSK HV HXV HKD hkm J K' Q' hP h1 h2
    · exact plays_arm4 HG HM HRO HB6 HX6 HT6 HSK HV HXV HKD hkm J K' Q' hP h1 h2
    · exact plays_arm5 HG HM HRO HB6 HX6 HT6 HSK HV HXV HKD hkm J K' Q' hP h1 h2
    · exact plays_arm6 HG HM HRO HB6 HX6 HT6 HSK HV HXV HKD hkm J K' Q' hP h1 h2
end Go.Proofs.Ytghimladdioajaa
namespace Go.Proofs.Ytghimladdioajaa
open Go Go.RowKit
set_option linter.unusedVariables false
set_option linter.unusedSimpArgs false
set_option maxRecDepth 100000
set_option maxHeartbeats 25600000 in
theorem plays_any (room : Int) (a : Option Addr) (rs : List RawA) (cap : Nat) (w : World) (hm : MaxV w) (h : RawAsAt w a rs) (hl : rs.length ≤ 9223372036854775807) :
    Calls Try.prog 6 #[.int .i64 room, .slice a rs.length cap] w fun e w' => e = .returned (.bool true) ∧ Below w.heap.size w w' := by
  by_cases hlen : (40 : Int) < rs.length
  · exact plays_long room a rs cap w hm hlen
  by_cases hroom : room < 1 ∨ 65536 < room
  · exact plays_room room a rs cap w hm hlen hroom
  obtain ⟨G, hG⟩ := good_fn
  have HA := Lib.hid (awake5_any w hm)
  have HM := Lib.hid hm
  have HR := Lib.hid h
  have HG := Lib.hid hG
  have hl40 : rs.length ≤ 40 := by omega
  have t0 : decide ((40 : Int) < rs.length) = false := decide_eq_false hlen
  clear hm h hG hl hlen
  have hr1 : 1 ≤ room := by omega
  have hr2 : room ≤ 65536 := by omega
  have q1 : decide (room < 1) = false := decide_eq_false (by omega)
  have q2 : decide (65536 < room) = false := decide_eq_false (by omega)
  have HRO := Lib.hid (⟨hr1, hr2⟩ : _ ∧ _)
  clear hroom hr1 hr2
  go_enter Try.func6, Try.ntmps6
  go_wp2_with fail
  refine HA.out.mono ?_
  rintro e w1 ⟨rfl, hb1⟩
  go_wp2_with fail
  refine (new_yes room w1 HRO.out w.heap.size hb1.size).mono ?_
  rintro e w2 ⟨p, m, rfl, hd2, hb2, hp2, hm2⟩
  have HB2 := Lib.hid (Both.begin (G := G) hd2 (hb1.trans (hb2.mono hb1.size)))
  clear hd2 hb2 hp2 hm2 hb1
  go_wp2_with fail
  go_loopw [69] (fun i wr => ∃ k : Nat, k ≤ rs.length ∧ i = .int .i64 k ∧ Hid (∃ ts, Both G w p m w2.heap.size room ts wr)) (fun i _ => rs.length - (intOf i).toNat)
  case atStart => exact ⟨0, by omega, rfl, Lib.hid ⟨[], HB2.out⟩⟩
  case round =>
    obtain ⟨k, hk, rfl, hc⟩ := hrel
    by_cases hlt : k < rs.length
    · obtain ⟨ts, V, hB⟩ := hc.out
      obtain ⟨av, cv, rfl⟩ := hB.2.2.1.form
      obtain ⟨b, off, rfl, hact⟩ := (HR.out.below hB.bel).at_ k hlt
      obtain ⟨r, hr⟩ : ∃ r, r = rs[k]'hlt := ⟨_, rfl⟩
      rw [← hr] at hact
      have hin := hact.2
      obtain ⟨r0, r1, r2, r3, r4, r5, r6, r7, r8, r9, r10, r11, r12, r13, r14, r15, r16⟩ := rawa_cells hact
      clear hact hr
      obtain ⟨kd, nn, ⟨⟨k1, s1, t1, l1⟩, ⟨k2, s2, t2, l2⟩, ⟨k3, s3, t3, l3⟩⟩, ka, kb, kc⟩ := r
      obtain ⟨hkd0, hkd1, -, -, -, -⟩ := hin
      dsimp only at r0 r1 r2 r3 r4 r5 r6 r7 r8 r9 r10 r11 r12 r13 r14 r15 r16 hkd0 hkd1
      have b1 : (0 : Int) ≤ (k : Int) := by omega
      have b2 : (k : Int) < (rs.length : Int) := by omega
      obtain ⟨W1, hW1⟩ : ∃ W1, W1 = wr.alloc (.cells #[.int .u8 kd, .int .i64 nn, .int .i64 k1, .string s1, .string t1, .string l1, .int .i64 k2, .string s2, .string t2, .string l2, .int .i64 k3, .string s3, .string t3, .string l3, .int .i64 ka, .int .i64 kb, .int .i64 kc] 67) := ⟨_, rfl⟩
      have hbx : W1.heap[wr.heap.size]? = some (.cells #[.int .u8 kd, .int .i64 nn, .int .i64 k1, .string s1, .string t1, .string l1, .int .i64 k2, .string s2, .string t2, .string l2, .int .i64 k3, .string s3, .string t3, .string l3, .int .i64 ka, .int .i64 kb, .int .i64 kc] 67 (0, 0)) := by rw [hW1]; exact box_new wr _ _
      have HB1 := Lib.hid (show BothV G w p m w2.heap.size room (.slice av ts.length cv) ts W1 by rw [hW1]; exact hB.alloc _)
      have HX1 := Lib.hid hbx
      have HW1 := Lib.hid hW1
      have HKD := Lib.hid (⟨hkd0, hkd1⟩ : _ ∧ _)
      clear hbx hB hc hW1 hkd0 hkd1
      have HSH1 := Lib.hid (fun w => short5_any k1 s1 t1 l1 w)
      have HSH2 := Lib.hid (fun w => short5_any k2 s2 t2 l2 w)
      have HSH3 := Lib.hid (fun w => short5_any k3 s3 t3 l3 w)
      obtain ⟨g1, hg1⟩ : ∃ b, b = short5 s1 t1 l1 := ⟨_, rfl⟩
      obtain ⟨g2, hg2⟩ : ∃ b, b = short5 s2 t2 l2 := ⟨_, rfl⟩
      obtain ⟨g3, hg3⟩ : ∃ b, b = short5 s3 t3 l3 := ⟨_, rfl⟩
      rw [← hg1] at HSH1
      rw [← hg2] at HSH2
      rw [← hg3] at HSH3
      obtain ⟨bb, hbb⟩ : ∃ bb, bb = (g1 && (g2 && g3)) := ⟨_, rfl⟩
      have HE : Hid (bb = true → short5 s1 t1 l1 = true ∧ short5 s2 t2 l2 = true ∧ short5 s3 t3 l3 = true) := Lib.hid (fun h => by rw [hbb, hg1, hg2, hg3] at h; simpa [Bool.and_eq_true] using h)
      have HBB := Lib.hid hbb
      clear hg1 hg2 hg3 hbb
      go_upto_region 11 with fail
      refine plays_r11 b1 b2 r0 r1 r2 r3 r4 r5 r6 r7 r8 r9 r10 r11 r12 r13 r14 r15 r16 (fun ul71 ul72 => ?_)
      rw [← HW1.out]
      clear r0 r1 r2 r3 r4 r5 r6 r7 r8 r9 r10 r11 r12 r13 r14 r15 r16
      go_upto_region 12 with fail
      refine plays_r12 HX1 HSH1 HSH2 HSH3 (fun ul73 ul74 ul75 ul76 ul77 ul78 ul79 ul80 ul81 ul82 ul83 ul84 ul85 ul86 ul87 ul88 ul89 ul90 w5 HW5 => ?_)
      have HB5 := Lib.hid (HB1.out.below HW5.out)
      have HX5 := Lib.hid (box_below HX1.out HW5.out)
      rw [← HBB.out]
      clear HSH1 HSH2 HSH3 HBB HW5
      cases bb with
      | false =>
        go_wp2_with fail
        go_ret
        exact ⟨rfl, HB5.out.bel⟩
      | true =>
        obtain ⟨hs1, hs2, hs3⟩ := HE.out rfl
        obtain ⟨X1, hX1⟩ : ∃ X, X = termK k1 s1 t1 l1 := ⟨_, rfl⟩
        obtain ⟨X2, hX2⟩ : ∃ X, X = termK k2 s2 t2 l2 := ⟨_, rfl⟩
        obtain ⟨X3, hX3⟩ : ∃ X, X = termK k3 s3 t3 l3 := ⟨_, rfl⟩
        have HP1 := Lib.hid (fun w => plain4_any k1 s1 t1 l1 w)
        have HP2 := Lib.hid (fun w => plain4_any k2 s2 t2 l2 w)
        have HP3 := Lib.hid (fun w => plain4_any k3 s3 t3 l3 w)
        rw [← hX1] at HP1
        rw [← hX2] at HP2
        rw [← hX3] at HP3
        unfold refT at HP1 HP2 HP3
        have HSK : Hid ((Small X1 ∧ Small X2 ∧ Small X3) ∧ KeyT X1 ∧ KeyT X2 ∧ KeyT X3) := Lib.hid ⟨⟨by rw [hX1]; exact rawK_small (r := ⟨k1, s1, t1, l1⟩) hs1, by rw [hX2]; exact rawK_small (r := ⟨k2, s2, t2, l2⟩) hs2, by rw [hX3]; exact rawK_small (r := ⟨k3, s3, t3, l3⟩) hs3⟩, by rw [hX1]; exact termK_key _ _ _ _, by rw [hX2]; exact termK_key _ _ _ _, by rw [hX3]; exact termK_key _ _ _ _⟩
        clear hX1 hX2 hX3
        obtain ⟨kx1, hkx1⟩ : ∃ v, v = kindV X1 := ⟨_, rfl⟩
        obtain ⟨xs1, hxs1⟩ : ∃ v, v = text0 X1 := ⟨_, rfl⟩
        obtain ⟨xt1, hxt1⟩ : ∃ v, v = text1 X1 := ⟨_, rfl⟩
        obtain ⟨xl1, hxl1⟩ : ∃ v, v = text2 X1 := ⟨_, rfl⟩
        obtain ⟨kx2, hkx2⟩ : ∃ v, v = kindV X2 := ⟨_, rfl⟩
        obtain ⟨xs2, hxs2⟩ : ∃ v, v = text0 X2 := ⟨_, rfl⟩
        obtain ⟨xt2, hxt2⟩ : ∃ v, v = text1 X2 := ⟨_, rfl⟩
        obtain ⟨xl2, hxl2⟩ : ∃ v, v = text2 X2 := ⟨_, rfl⟩
        obtain ⟨kx3, hkx3⟩ : ∃ v, v = kindV X3 := ⟨_, rfl⟩
        obtain ⟨xs3, hxs3⟩ : ∃ v, v = text0 X3 := ⟨_, rfl⟩
        obtain ⟨xt3, hxt3⟩ : ∃ v, v = text1 X3 := ⟨_, rfl⟩
        obtain ⟨xl3, hxl3⟩ : ∃ v, v = text2 X3 := ⟨_, rfl⟩
        have HV := Lib.hid (⟨hkx1, hxs1, hxt1, hxl1, hkx2, hxs2, hxt2, hxl2, hkx3, hxs3, hxt3, hxl3⟩ : _ ∧ _ ∧ _ ∧ _ ∧ _ ∧ _ ∧ _ ∧ _ ∧ _ ∧ _ ∧ _ ∧ _)
        rw [← hkx1, ← hxs1, ← hxt1, ← hxl1] at HP1
        rw [← hkx2, ← hxs2, ← hxt2, ← hxl2] at HP2
        rw [← hkx3, ← hxs3, ← hxt3, ← hxl3] at HP3
        clear hkx1 hxs1 hxt1 hxl1 hkx2 hxs2 hxt2 hxl2 hkx3 hxs3 hxt3 hxl3
        clear hs1 hs2 hs3
        go_wp2_with fail
        refine plays_r14 HX5 HP1 HP2 HP3 (fun _ b c _ e h => by cases b; cases c; cases e; exact h) (fun ul92 ul93 ul94 ul95 ul96 ul97 ul98 ul99 ul100 ul101 ul102 ul103 ul104 q W HF => ?_)
        have HB5W := Lib.hid (HB5.out.below HF.out.1)
        have HX5W := Lib.hid (box_below HX5.out HF.out.1)
        have HT5W := Lib.hid HF.out.2
        clear HB5 HX5 HF
        have HRE := Lib.hid (fun w => real_any X3 HSK.out.2.2.2 w)
        unfold refT at HRE
        rw [← HV.out.2.2.2.2.2.2.2.2.1, ← HV.out.2.2.2.2.2.2.2.2.2.1, ← HV.out.2.2.2.2.2.2.2.2.2.2.1, ← HV.out.2.2.2.2.2.2.2.2.2.2.2] at HRE
        obtain ⟨xv, hxv⟩ : ∃ xv, xv = tmV X3 := ⟨_, rfl⟩
        rw [← hxv] at HRE
        have HXV := Lib.hid hxv
        clear hxv
        obtain ⟨n0, n1, n2, n3, n4, n5, n6, n7, n8, n9, n10, n11⟩ := cells12 HT5W.out
        go_wp2_with fail
        refine (HRE.out _).mono ?_
        rintro e w6 ⟨rfl, hb6⟩
        have HB6 := Lib.hid (HB5W.out.below hb6)
        have HX6 := Lib.hid (box_below HX5W.out hb6)
        have HT6 := Lib.hid (box_below HT5W.out hb6)
        clear hb6 n0 n1 n2 n3 n4 n5 n6 n7 n8 n9 n10 n11
        obtain ⟨c0, c1, c2, c3, c4, c5, c6, c7, c8, c9, c10, c11, c12, c13, c14, c15, c16⟩ := cells17 HX6.out
        go_upto_block 2 with fail
        rw [show kd.tmod 7 = kd % 7 from Int.tmod_eq_emod_of_nonneg HKD.out.1]
        refine plays_sw HG HM HRO HB6 HX6 HT6 HSK HV HXV HKD ?hp ?hr
        case hp =>
          intro ch b c wz e h
          cases b
          cases c
          cases e
          exact h
        intro ul4 ul12 ul13 ul14 ul15 ul16 ul17 ul18 ul19 ul20 ul21 ul22 ul23 ul24 ul25 ul26 ul27 ul28 ul29 ul30 ul31 ul32 ul33 ul111 ul112 ul113 ul114 ul115 ul116 ul117 ul118 ul119 ul120 ul121 ul122 ul123 ul124 ul125 ul126 ul127 ul128 ul129 ul130 ul131 ul132 ul133 ul134 ul135 ul136 ul137 ul138 ul139 ul140 ul141 ul142 ul143 ul144 ul145 ul146 ul147 ul148 ul149 ul150 ul151 ul152 ul153 ul154 ul155 ul156 ul157 ul158 ul159 ul160 ul161 ul162 ul163 ul164 ul165 ul166 ul167 ul168 ul169 ul170 ul171 ul172 ul173 ul174 ul175 ul176 ul177 ul178 ul179 ul180 ul181 ul182 ul183 ul184 ul185 ul186 ul187 ul188 ul189 ul190 ul191 ul192 ul193 ul194 ul195 ul196 ul197 ul198 ul199 ul200 ul201 ul202 ul203 ul204 ul205 ul206 ul207 ul208 ul209 ul210 ul211 ul212 ul213 ul214 ul215 ul216 ul217 ul218 ul219 ul220 ul221 ul222 ul223 ul224 ul225 ul226 ul227 ul228 ul229 ul230 ul231 ul232 ul233 ul234 ul235 ul236 ul237 ul238 ul239 ul240 ul241 ul242 ul243 ul244 ul245 ul246 ul247 ul248 ul249 ul250 ul251 ul252 ul253 ul254 ul255 ul256 ul257 ul258 ul259 ul260 ul261 ul262 ul263 ul264 ul265 ul266 ul267 ul268 ul269 ul270 ul271 ul272 ul273 ul274 ul275 ul276 ul277 ul278 ul279 ul280 ul281 ul282 ul283 ul284 ul285 ul286 ul287 ul288 ul289 ul290 ul291 ul292 ul293 ul294 ul295 ul296 ul297 ul298 ul299 ul300 ul301 ul302 w19 HS
        obtain ⟨ts', V', hS⟩ := HS.out
        have HB19 := Lib.hid hS
        obtain ⟨x0, x1, x2, x3⟩ := cells2 hS.2.1
        clear hS HS c0 c1 c2 c3 c4 c5 c6 c7 c8 c9 c10 c11 c12 c13 c14 c15 c16
        go_wp2_with fail
        refine (is_any HG.out room room _ _ (HM.out.below HB19.out.bel) HB19.out.1 HB19.out.2.2.1 HB19.out.2.2.2.1 HB19.out.2.2.2.2.1).mono ?_
        rintro e w20 ⟨rfl, hb20⟩
        have HB20 := Lib.hid (HB19.out.below hb20)
        clear hb20
        go_wp2_with fail
        exact ⟨⟨k + 1, by omega, by push_cast; rfl, Lib.hid ⟨_, _, HB20.out⟩⟩, by simp only [intOf]; omega⟩
    · have t3 : decide (k < rs.length) = false := decide_eq_false hlt
      obtain ⟨ts, V, hB⟩ := hc.out
      have HB := Lib.hid hB
      clear hc hB
      go_wp2_with fail
      go_ret
      exact ⟨rfl, HB.out.bel⟩
end Go.Proofs.Ytghimladdioajaa
