/- DictPlays: the region that takes an act. DictPlays: the region that makes a plain triple of an act's. DictPlays: the switch's arm 0. DictPlays: the switch's arm 1. DictPlays: the switch's arm 2. -/
import Derived.Test.YtghimladdioajaaPlaysA
import Derived.Deep.CutRange
namespace Go.Proofs.Ytghimladdioajaa
open Go Go.RowKit
set_option linter.unusedVariables false
set_option linter.unusedSimpArgs false
set_option maxRecDepth 100000
set_option maxHeartbeats 12800000 in
theorem plays_r11 {wr : World} {b off k len cap : Nat} {kd nn k1 : Int} {s1 t1 l1 : ByteArray} {k2 : Int} {s2 t2 l2 : ByteArray} {k3 : Int} {s3 t3 l3 : ByteArray} {ka kb kc : Int} (b1 : (0 : Int) ≤ (k : Int)) (b2 : (k : Int) < (len : Int)) (r0 : wr.cell? ⟨b, off + k * 17, none⟩ = some (.int .u8 kd)) (r1 : wr.cell? ⟨b, off + k * 17 + 1, none⟩ = some (.int .i64 nn)) (r2 : wr.cell? ⟨b, off + k * 17 + 2, none⟩ = some (.int .i64 k1)) (r3 : wr.cell? ⟨b, off + k * 17 + 3, none⟩ = some (.string s1)) (r4 : wr.cell? ⟨b, off + k * 17 + 4, none⟩ = some (.string t1)) (r5 : wr.cell? ⟨b, off + k * 17 + 5, none⟩ = some (.string l1)) (r6 : wr.cell? ⟨b, off + k * 17 + 6, none⟩ = some (.int .i64 k2)) (r7 : wr.cell? ⟨b, off + k * 17 + 7, none⟩ = some (.string s2)) (r8 : wr.cell? ⟨b, off + k * 17 + 8, none⟩ = some (.string t2)) (r9 : wr.cell? ⟨b, off + k * 17 + 9, none⟩ = some (.string l2)) (r10 : wr.cell? ⟨b, off + k * 17 + 10, none⟩ = some (.int .i64 k3)) (r11 : wr.cell? ⟨b, off + k * 17 + 11, none⟩ = some (.string s3)) (r12 : wr.cell? ⟨b, off + k * 17 + 12, none⟩ = some (.string t3)) (r13 : wr.cell? ⟨b, off + k * 17 + 13, none⟩ = some (.string l3)) (r14 : wr.cell? ⟨b, off + k * 17 + 14, none⟩ = some (.int .i64 ka)) (r15 : wr.cell? ⟨b, off + k * 17 + 15, none⟩ = some (.int .i64 kb)) (r16 : wr.cell? ⟨b, off + k * 17 + 16, none⟩ = some (.int .i64 kc))
    {sl0 sl1 sl2 sl3 sl4 sl5 sl6 sl7 sl8 sl9 sl10 sl11 sl12 sl13 sl14 sl15 sl16 sl17 sl18 sl19 sl20 sl21 sl22 sl23 sl24 sl25 sl26 sl27 sl28 sl29 sl30 sl31 sl32 sl33 sl34 sl35 sl36 sl37 sl38 sl39 sl40 sl41 sl42 sl43 sl44 sl45 sl46 sl47 sl48 sl49 sl50 sl51 sl52 sl53 sl54 sl55 sl56 sl57 sl58 sl59 sl60 sl61 sl62 sl63 sl64 sl65 sl66 sl68 sl70 sl71 sl72 sl73 sl74 sl75 sl76 sl77 sl78 sl79 sl80 sl81 sl82 sl83 sl84 sl85 sl86 sl87 sl88 sl89 sl90 sl91 sl92 sl93 sl94 sl95 sl96 sl97 sl98 sl99 sl100 sl101 sl102 sl103 sl104 sl105 sl106 sl107 sl108 sl109 sl110 sl111 sl112 sl113 sl114 sl115 sl116 sl117 sl118 sl119 sl120 sl121 sl122 sl123 sl124 sl125 sl126 sl127 sl128 sl129 sl130 sl131 sl132 sl133 sl134 sl135 sl136 sl137 sl138 sl139 sl140 sl141 sl142 sl143 sl144 sl145 sl146 sl147 sl148 sl149 sl150 sl151 sl152 sl153 sl154 sl155 sl156 sl157 sl158 sl159 sl160 sl161 sl162 sl163 sl164 sl165 sl166 sl167 sl168 sl169 sl170 sl171 sl172 sl173 sl174 sl175 sl176 sl177 sl178 sl179 sl180 sl181 sl182 sl183 sl184 sl185 sl186 sl187 sl188 sl189 sl190 sl191 sl192 sl193 sl194 sl195 sl196 sl197 sl198 sl199 sl200 sl201 sl202 sl203 sl204 sl205 sl206 sl207 sl208 sl209 sl210 sl211 sl212 sl213 sl214 sl215 sl216 sl217 sl218 sl219 sl220 sl221 sl222 sl223 sl224 sl225 sl226 sl227 sl228 sl229 sl230 sl231 sl232 sl233 sl234 sl235 sl236 sl237 sl238 sl239 sl240 sl241 sl242 sl243 sl244 sl245 sl246 sl247 sl248 sl249 sl250 sl251 sl252 sl253 sl254 sl255 sl256 sl257 sl258 sl259 sl260 sl261 sl262 sl263 sl264 sl265 sl266 sl267 sl268 sl269 sl270 sl271 sl272 sl273 sl274 sl275 sl276 sl277 sl278 sl279 sl280 sl281 sl282 sl283 sl284 sl285 sl286 sl287 sl288 sl289 sl290 sl291 sl292 sl293 sl294 sl295 sl296 sl297 sl298 sl299 sl300 sl301 sl302 sl303 sl304 sl305 sl306 sl307 : Value} {K : Act → World → Prop} {Q' : Exit → Act → World → Prop}
    (hK : ∀ (ul71 ul72 : Value), K ⟨(sl0 :: sl1 :: sl2 :: sl3 :: sl4 :: sl5 :: sl6 :: sl7 :: sl8 :: .pointer (some ⟨wr.heap.size, 0, none⟩) :: sl10 :: sl11 :: sl12 :: sl13 :: sl14 :: sl15 :: sl16 :: sl17 :: sl18 :: sl19 :: sl20 :: sl21 :: sl22 :: sl23 :: sl24 :: sl25 :: sl26 :: sl27 :: sl28 :: sl29 :: sl30 :: sl31 :: sl32 :: sl33 :: sl34 :: sl35 :: sl36 :: sl37 :: sl38 :: sl39 :: sl40 :: sl41 :: sl42 :: sl43 :: sl44 :: sl45 :: sl46 :: sl47 :: sl48 :: sl49 :: sl50 :: sl51 :: sl52 :: sl53 :: sl54 :: sl55 :: sl56 :: sl57 :: sl58 :: sl59 :: sl60 :: sl61 :: sl62 :: sl63 :: sl64 :: sl65 :: sl66 :: .slice (some ⟨b, off, none⟩) len cap :: sl68 :: .int .i64 k :: sl70 :: ul71 :: ul72 :: sl73 :: sl74 :: sl75 :: sl76 :: sl77 :: sl78 :: sl79 :: sl80 :: sl81 :: sl82 :: sl83 :: sl84 :: sl85 :: sl86 :: sl87 :: sl88 :: sl89 :: sl90 :: sl91 :: sl92 :: sl93 :: sl94 :: sl95 :: sl96 :: sl97 :: sl98 :: sl99 :: sl100 :: sl101 :: sl102 :: sl103 :: sl104 :: sl105 :: sl106 :: sl107 :: sl108 :: sl109 :: sl110 :: sl111 :: sl112 :: sl113 :: sl114 :: sl115 :: sl116 :: sl117 :: sl118 :: sl119 :: sl120 :: sl121 :: sl122 :: sl123 :: sl124 :: sl125 :: sl126 :: sl127 :: sl128 :: sl129 :: sl130 :: sl131 :: sl132 :: sl133 :: sl134 :: sl135 :: sl136 :: sl137 :: sl138 :: sl139 :: sl140 :: sl141 :: sl142 :: sl143 :: sl144 :: sl145 :: sl146 :: sl147 :: sl148 :: sl149 :: sl150 :: sl151 :: sl152 :: sl153 :: sl154 :: sl155 :: sl156 :: sl157 :: sl158 :: sl159 :: sl160 :: sl161 :: sl162 :: sl163 :: sl164 :: sl165 :: sl166 :: sl167 :: sl168 :: sl169 :: sl170 :: sl171 :: sl172 :: sl173 :: sl174 :: sl175 :: sl176 :: sl177 :: sl178 :: sl179 :: sl180 :: sl181 :: sl182 :: sl183 :: sl184 :: sl185 :: sl186 :: sl187 :: sl188 :: sl189 :: sl190 :: sl191 :: sl192 :: sl193 :: sl194 :: sl195 :: sl196 :: sl197 :: sl198 :: sl199 :: sl200 :: sl201 :: sl202 :: sl203 :: sl204 :: sl205 :: sl206 :: sl207 :: sl208 :: sl209 :: sl210 :: sl211 :: sl212 :: sl213 :: sl214 :: sl215 :: sl216 :: sl217 :: sl218 :: sl219 :: sl220 :: sl221 :: sl222 :: sl223 :: sl224 :: sl225 :: sl226 :: sl227 :: sl228 :: sl229 :: sl230 :: sl231 :: sl232 :: sl233 :: sl234 :: sl235 :: sl236 :: sl237 :: sl238 :: sl239 :: sl240 :: sl241 :: sl242 :: sl243 :: sl244 :: sl245 :: sl246 :: sl247 :: sl248 :: sl249 :: sl250 :: sl251 :: sl252 :: sl253 :: sl254 :: sl255 :: sl256 :: sl257 :: sl258 :: sl259 :: sl260 :: sl261 :: sl262 :: sl263 :: sl264 :: sl265 :: sl266 :: sl267 :: sl268 :: sl269 :: sl270 :: sl271 :: sl272 :: sl273 :: sl274 :: sl275 :: sl276 :: sl277 :: sl278 :: sl279 :: sl280 :: sl281 :: sl282 :: sl283 :: sl284 :: sl285 :: sl286 :: sl287 :: sl288 :: sl289 :: sl290 :: sl291 :: sl292 :: sl293 :: sl294 :: sl295 :: sl296 :: sl297 :: sl298 :: sl299 :: sl300 :: sl301 :: sl302 :: sl303 :: sl304 :: sl305 :: sl306 :: sl307 :: []).toArray, []⟩ (wr.alloc (.cells #[.int .u8 kd, .int .i64 nn, .int .i64 k1, .string s1, .string t1, .string l1, .int .i64 k2, .string s2, .string t2, .string l2, .int .i64 k3, .string s3, .string t3, .string l3, .int .i64 ka, .int .i64 kb, .int .i64 kc] 67))) :
    Code.wp Try.prog ((Try.f6.body.bind (findC (isReg 11))).getD .skip) (Exit.then K Q') ⟨(sl0 :: sl1 :: sl2 :: sl3 :: sl4 :: sl5 :: sl6 :: sl7 :: sl8 :: sl9 :: sl10 :: sl11 :: sl12 :: sl13 :: sl14 :: sl15 :: sl16 :: sl17 :: sl18 :: sl19 :: sl20 :: sl21 :: sl22 :: sl23 :: sl24 :: sl25 :: sl26 :: sl27 :: sl28 :: sl29 :: sl30 :: sl31 :: sl32 :: sl33 :: sl34 :: sl35 :: sl36 :: sl37 :: sl38 :: sl39 :: sl40 :: sl41 :: sl42 :: sl43 :: sl44 :: sl45 :: sl46 :: sl47 :: sl48 :: sl49 :: sl50 :: sl51 :: sl52 :: sl53 :: sl54 :: sl55 :: sl56 :: sl57 :: sl58 :: sl59 :: sl60 :: sl61 :: sl62 :: sl63 :: sl64 :: sl65 :: sl66 :: .slice (some ⟨b, off, none⟩) len cap :: sl68 :: .int .i64 k :: sl70 :: sl71 :: sl72 :: sl73 :: sl74 :: sl75 :: sl76 :: sl77 :: sl78 :: sl79 :: sl80 :: sl81 :: sl82 :: sl83 :: sl84 :: sl85 :: sl86 :: sl87 :: sl88 :: sl89 :: sl90 :: sl91 :: sl92 :: sl93 :: sl94 :: sl95 :: sl96 :: sl97 :: sl98 :: sl99 :: sl100 :: sl101 :: sl102 :: sl103 :: sl104 :: sl105 :: sl106 :: sl107 :: sl108 :: sl109 :: sl110 :: sl111 :: sl112 :: sl113 :: sl114 :: sl115 :: sl116 :: sl117 :: sl118 :: sl119 :: sl120 :: sl121 :: sl122 :: sl123 :: sl124 :: sl125 :: sl126 :: sl127 :: sl128 :: sl129 :: sl130 :: sl131 :: sl132 :: sl133 :: sl134 :: sl135 :: sl136 :: sl137 :: sl138 :: sl139 :: sl140 :: sl141 :: sl142 :: sl143 :: sl144 :: sl145 :: sl146 :: sl147 :: sl148 :: sl149 :: sl150 :: sl151 :: sl152 :: sl153 :: sl154 :: sl155 :: sl156 :: sl157 :: sl158 :: sl159 :: sl160 :: sl161 :: sl162 :: sl163 :: sl164 :: sl165 :: sl166 :: sl167 :: sl168 :: sl169 :: sl170 :: sl171 :: sl172 :: sl173 :: sl174 :: sl175 :: sl176 :: sl177 :: sl178 :: sl179 :: sl180 :: sl181 :: sl182 :: sl183 :: sl184 :: sl185 :: sl186 :: sl187 :: sl188 :: sl189 :: sl190 :: sl191 :: sl192 :: sl193 :: sl194 :: sl195 :: sl196 :: sl197 :: sl198 :: sl199 :: sl200 :: sl201 :: sl202 :: sl203 :: sl204 :: sl205 :: sl206 :: sl207 :: sl208 :: sl209 :: sl210 :: sl211 :: sl212 :: sl213 :: sl214 :: sl215 :: sl216 :: sl217 :: sl218 :: sl219 :: sl220 :: sl221 :: sl222 :: sl223 :: sl224 :: sl225 :: sl226 :: sl227 :: sl228 :: sl229 :: sl230 :: sl231 :: sl232 :: sl233 :: sl234 :: sl235 :: sl236 :: sl237 :: sl238 :: sl239 :: sl240 :: sl241 :: sl242 :: sl243 :: sl244 :: sl245 :: sl246 :: sl247 :: sl248 :: sl249 :: sl250 :: sl251 :: sl252 :: sl253 :: sl254 :: sl255 :: sl256 :: sl257 :: sl258 :: sl259 :: sl260 :: sl261 :: sl262 :: sl263 :: sl264 :: sl265 :: sl266 :: sl267 :: sl268 :: sl269 :: sl270 :: sl271 :: sl272 :: sl273 :: sl274 :: sl275 :: sl276 :: sl277 :: sl278 :: sl279 :: sl280 :: sl281 :: sl282 :: sl283 :: sl284 :: sl285 :: sl286 :: sl287 :: sl288 :: sl289 :: sl290 :: sl291 :: sl292 :: sl293 :: sl294 :: sl295 :: sl296 :: sl297 :: sl298 :: sl299 :: sl300 :: sl301 :: sl302 :: sl303 :: sl304 :: sl305 :: sl306 :: sl307 :: []).toArray, []⟩ wr := by
  conv => arg 2; whnf
  go_wp2_with fail
  exact hK _ _
end Go.Proofs.Ytghimladdioajaa
namespace Go.Proofs.Ytghimladdioajaa
open Go Go.RowKit
set_option linter.unusedVariables false
set_option linter.unusedSimpArgs false
set_option maxRecDepth 100000
set_option maxHeartbeats 12800000 in
theorem plays_r14 {w5 wr : World} {kd nn k1 : Int} {s1 t1 l1 : ByteArray} {k2 : Int} {s2 t2 l2 : ByteArray} {k3 : Int} {s3 t3 l3 : ByteArray} {ka kb kc kx1 : Int} {xs1 xt1 xl1 : ByteArray} {kx2 : Int} {xs2 xt2 xl2 : ByteArray} {kx3 : Int} {xs3 xt3 xl3 : ByteArray} (HX5 : Hid (w5.heap[wr.heap.size]? = some (.cells #[.int .u8 kd, .int .i64 nn, .int .i64 k1, .string s1, .string t1, .string l1, .int .i64 k2, .string s2, .string t2, .string l2, .int .i64 k3, .string s3, .string t3, .string l3, .int .i64 ka, .int .i64 kb, .int .i64 kc] 67 (0, 0)))) (HP1 : Hid (∀ w : World, Calls Try.prog 11 #[.agg #[.int .i64 k1, .string s1, .string t1, .string l1]] w fun e w' => e = .returned (.agg #[.int .i64 kx1, .string xs1, .string xt1, .string xl1]) ∧ Below w.heap.size w w')) (HP2 : Hid (∀ w : World, Calls Try.prog 11 #[.agg #[.int .i64 k2, .string s2, .string t2, .string l2]] w fun e w' => e = .returned (.agg #[.int .i64 kx2, .string xs2, .string xt2, .string xl2]) ∧ Below w.heap.size w w')) (HP3 : Hid (∀ w : World, Calls Try.prog 11 #[.agg #[.int .i64 k3, .string s3, .string t3, .string l3]] w fun e w' => e = .returned (.agg #[.int .i64 kx3, .string xs3, .string xt3, .string xl3]) ∧ Below w.heap.size w w'))
    {sl0 sl1 sl2 sl3 sl4 sl5 sl6 sl7 sl8 sl10 sl11 sl12 sl13 sl14 sl15 sl16 sl17 sl18 sl19 sl20 sl21 sl22 sl23 sl24 sl25 sl26 sl27 sl28 sl29 sl30 sl31 sl32 sl33 sl34 sl35 sl36 sl37 sl38 sl39 sl40 sl41 sl42 sl43 sl44 sl45 sl46 sl47 sl48 sl49 sl50 sl51 sl52 sl53 sl54 sl55 sl56 sl57 sl58 sl59 sl60 sl61 sl62 sl63 sl64 sl65 sl66 sl67 sl68 sl69 sl70 sl71 sl72 sl73 sl74 sl75 sl76 sl77 sl78 sl79 sl80 sl81 sl82 sl83 sl84 sl85 sl86 sl87 sl88 sl89 sl90 sl91 sl92 sl93 sl94 sl95 sl96 sl97 sl98 sl99 sl100 sl101 sl102 sl103 sl104 sl105 sl106 sl107 sl108 sl109 sl110 sl111 sl112 sl113 sl114 sl115 sl116 sl117 sl118 sl119 sl120 sl121 sl122 sl123 sl124 sl125 sl126 sl127 sl128 sl129 sl130 sl131 sl132 sl133 sl134 sl135 sl136 sl137 sl138 sl139 sl140 sl141 sl142 sl143 sl144 sl145 sl146 sl147 sl148 sl149 sl150 sl151 sl152 sl153 sl154 sl155 sl156 sl157 sl158 sl159 sl160 sl161 sl162 sl163 sl164 sl165 sl166 sl167 sl168 sl169 sl170 sl171 sl172 sl173 sl174 sl175 sl176 sl177 sl178 sl179 sl180 sl181 sl182 sl183 sl184 sl185 sl186 sl187 sl188 sl189 sl190 sl191 sl192 sl193 sl194 sl195 sl196 sl197 sl198 sl199 sl200 sl201 sl202 sl203 sl204 sl205 sl206 sl207 sl208 sl209 sl210 sl211 sl212 sl213 sl214 sl215 sl216 sl217 sl218 sl219 sl220 sl221 sl222 sl223 sl224 sl225 sl226 sl227 sl228 sl229 sl230 sl231 sl232 sl233 sl234 sl235 sl236 sl237 sl238 sl239 sl240 sl241 sl242 sl243 sl244 sl245 sl246 sl247 sl248 sl249 sl250 sl251 sl252 sl253 sl254 sl255 sl256 sl257 sl258 sl259 sl260 sl261 sl262 sl263 sl264 sl265 sl266 sl267 sl268 sl269 sl270 sl271 sl272 sl273 sl274 sl275 sl276 sl277 sl278 sl279 sl280 sl281 sl282 sl283 sl284 sl285 sl286 sl287 sl288 sl289 sl290 sl291 sl292 sl293 sl294 sl295 sl296 sl297 sl298 sl299 sl300 sl301 sl302 sl303 sl304 sl305 sl306 sl307 : Value} {K : Act → World → Prop} {Q' : Exit → Act → World → Prop} (hP : ∀ c (a a' : Act) w, a.defers = a'.defers → Q' (.panic c) a w → Q' (.panic c) a' w)
    (hK : ∀ (ul92 ul93 ul94 ul95 ul96 ul97 ul98 ul99 ul100 ul101 ul102 ul103 ul104 : Value) (q : Nat) (W : World), Hid (Below w5.heap.size w5 W ∧ W.heap[q]? = some (.cells #[.int .i64 kx1, .string xs1, .string xt1, .string xl1, .int .i64 kx2, .string xs2, .string xt2, .string xl2, .int .i64 kx3, .string xs3, .string xt3, .string xl3] 51 (0, 0))) → K ⟨(sl0 :: sl1 :: sl2 :: sl3 :: sl4 :: sl5 :: sl6 :: sl7 :: sl8 :: .pointer (some ⟨wr.heap.size, 0, none⟩) :: .pointer (some ⟨q, 0, none⟩) :: sl11 :: sl12 :: sl13 :: sl14 :: sl15 :: sl16 :: sl17 :: sl18 :: sl19 :: sl20 :: sl21 :: sl22 :: sl23 :: sl24 :: sl25 :: sl26 :: sl27 :: sl28 :: sl29 :: sl30 :: sl31 :: sl32 :: sl33 :: sl34 :: sl35 :: sl36 :: sl37 :: sl38 :: sl39 :: sl40 :: sl41 :: sl42 :: sl43 :: sl44 :: sl45 :: sl46 :: sl47 :: sl48 :: sl49 :: sl50 :: sl51 :: sl52 :: sl53 :: sl54 :: sl55 :: sl56 :: sl57 :: sl58 :: sl59 :: sl60 :: sl61 :: sl62 :: sl63 :: sl64 :: sl65 :: sl66 :: sl67 :: sl68 :: sl69 :: sl70 :: sl71 :: sl72 :: sl73 :: sl74 :: sl75 :: sl76 :: sl77 :: sl78 :: sl79 :: sl80 :: sl81 :: sl82 :: sl83 :: sl84 :: sl85 :: sl86 :: sl87 :: sl88 :: sl89 :: sl90 :: sl91 :: ul92 :: ul93 :: ul94 :: ul95 :: ul96 :: ul97 :: ul98 :: ul99 :: ul100 :: ul101 :: ul102 :: ul103 :: ul104 :: sl105 :: sl106 :: sl107 :: sl108 :: sl109 :: sl110 :: sl111 :: sl112 :: sl113 :: sl114 :: sl115 :: sl116 :: sl117 :: sl118 :: sl119 :: sl120 :: sl121 :: sl122 :: sl123 :: sl124 :: sl125 :: sl126 :: sl127 :: sl128 :: sl129 :: sl130 :: sl131 :: sl132 :: sl133 :: sl134 :: sl135 :: sl136 :: sl137 :: sl138 :: sl139 :: sl140 :: sl141 :: sl142 :: sl143 :: sl144 :: sl145 :: sl146 :: sl147 :: sl148 :: sl149 :: sl150 :: sl151 :: sl152 :: sl153 :: sl154 :: sl155 :: sl156 :: sl157 :: sl158 :: sl159 :: sl160 :: sl161 :: sl162 :: sl163 :: sl164 :: sl165 :: sl166 :: sl167 :: sl168 :: sl169 :: sl170 :: sl171 :: sl172 :: sl173 :: sl174 :: sl175 :: sl176 :: sl177 :: sl178 :: sl179 :: sl180 :: sl181 :: sl182 :: sl183 :: sl184 :: sl185 :: sl186 :: sl187 :: sl188 :: sl189 :: sl190 :: sl191 :: sl192 :: sl193 :: sl194 :: sl195 :: sl196 :: sl197 :: sl198 :: sl199 :: sl200 :: sl201 :: sl202 :: sl203 :: sl204 :: sl205 :: sl206 :: sl207 :: sl208 :: sl209 :: sl210 :: sl211 :: sl212 :: sl213 :: sl214 :: sl215 :: sl216 :: sl217 :: sl218 :: sl219 :: sl220 :: sl221 :: sl222 :: sl223 :: sl224 :: sl225 :: sl226 :: sl227 :: sl228 :: sl229 :: sl230 :: sl231 :: sl232 :: sl233 :: sl234 :: sl235 :: sl236 :: sl237 :: sl238 :: sl239 :: sl240 :: sl241 :: sl242 :: sl243 :: sl244 :: sl245 :: sl246 :: sl247 :: sl248 :: sl249 :: sl250 :: sl251 :: sl252 :: sl253 :: sl254 :: sl255 :: sl256 :: sl257 :: sl258 :: sl259 :: sl260 :: sl261 :: sl262 :: sl263 :: sl264 :: sl265 :: sl266 :: sl267 :: sl268 :: sl269 :: sl270 :: sl271 :: sl272 :: sl273 :: sl274 :: sl275 :: sl276 :: sl277 :: sl278 :: sl279 :: sl280 :: sl281 :: sl282 :: sl283 :: sl284 :: sl285 :: sl286 :: sl287 :: sl288 :: sl289 :: sl290 :: sl291 :: sl292 :: sl293 :: sl294 :: sl295 :: sl296 :: sl297 :: sl298 :: sl299 :: sl300 :: sl301 :: sl302 :: sl303 :: sl304 :: sl305 :: sl306 :: sl307 :: []).toArray, []⟩ W) :
    Code.wp Try.prog ((Try.f6.body.bind (findC (isReg 14))).getD .skip) (Exit.then K Q') ⟨(sl0 :: sl1 :: sl2 :: sl3 :: sl4 :: sl5 :: sl6 :: sl7 :: sl8 :: .pointer (some ⟨wr.heap.size, 0, none⟩) :: sl10 :: sl11 :: sl12 :: sl13 :: sl14 :: sl15 :: sl16 :: sl17 :: sl18 :: sl19 :: sl20 :: sl21 :: sl22 :: sl23 :: sl24 :: sl25 :: sl26 :: sl27 :: sl28 :: sl29 :: sl30 :: sl31 :: sl32 :: sl33 :: sl34 :: sl35 :: sl36 :: sl37 :: sl38 :: sl39 :: sl40 :: sl41 :: sl42 :: sl43 :: sl44 :: sl45 :: sl46 :: sl47 :: sl48 :: sl49 :: sl50 :: sl51 :: sl52 :: sl53 :: sl54 :: sl55 :: sl56 :: sl57 :: sl58 :: sl59 :: sl60 :: sl61 :: sl62 :: sl63 :: sl64 :: sl65 :: sl66 :: sl67 :: sl68 :: sl69 :: sl70 :: sl71 :: sl72 :: sl73 :: sl74 :: sl75 :: sl76 :: sl77 :: sl78 :: sl79 :: sl80 :: sl81 :: sl82 :: sl83 :: sl84 :: sl85 :: sl86 :: sl87 :: sl88 :: sl89 :: sl90 :: sl91 :: sl92 :: sl93 :: sl94 :: sl95 :: sl96 :: sl97 :: sl98 :: sl99 :: sl100 :: sl101 :: sl102 :: sl103 :: sl104 :: sl105 :: sl106 :: sl107 :: sl108 :: sl109 :: sl110 :: sl111 :: sl112 :: sl113 :: sl114 :: sl115 :: sl116 :: sl117 :: sl118 :: sl119 :: sl120 :: sl121 :: sl122 :: sl123 :: sl124 :: sl125 :: sl126 :: sl127 :: sl128 :: sl129 :: sl130 :: sl131 :: sl132 :: sl133 :: sl134 :: sl135 :: sl136 :: sl137 :: sl138 :: sl139 :: sl140 :: sl141 :: sl142 :: sl143 :: sl144 :: sl145 :: sl146 :: sl147 :: sl148 :: sl149 :: sl150 :: sl151 :: sl152 :: sl153 :: sl154 :: sl155 :: sl156 :: sl157 :: sl158 :: sl159 :: sl160 :: sl161 :: sl162 :: sl163 :: sl164 :: sl165 :: sl166 :: sl167 :: sl168 :: sl169 :: sl170 :: sl171 :: sl172 :: sl173 :: sl174 :: sl175 :: sl176 :: sl177 :: sl178 :: sl179 :: sl180 :: sl181 :: sl182 :: sl183 :: sl184 :: sl185 :: sl186 :: sl187 :: sl188 :: sl189 :: sl190 :: sl191 :: sl192 :: sl193 :: sl194 :: sl195 :: sl196 :: sl197 :: sl198 :: sl199 :: sl200 :: sl201 :: sl202 :: sl203 :: sl204 :: sl205 :: sl206 :: sl207 :: sl208 :: sl209 :: sl210 :: sl211 :: sl212 :: sl213 :: sl214 :: sl215 :: sl216 :: sl217 :: sl218 :: sl219 :: sl220 :: sl221 :: sl222 :: sl223 :: sl224 :: sl225 :: sl226 :: sl227 :: sl228 :: sl229 :: sl230 :: sl231 :: sl232 :: sl233 :: sl234 :: sl235 :: sl236 :: sl237 :: sl238 :: sl239 :: sl240 :: sl241 :: sl242 :: sl243 :: sl244 :: sl245 :: sl246 :: sl247 :: sl248 :: sl249 :: sl250 :: sl251 :: sl252 :: sl253 :: sl254 :: sl255 :: sl256 :: sl257 :: sl258 :: sl259 :: sl260 :: sl261 :: sl262 :: sl263 :: sl264 :: sl265 :: sl266 :: sl267 :: sl268 :: sl269 :: sl270 :: sl271 :: sl272 :: sl273 :: sl274 :: sl275 :: sl276 :: sl277 :: sl278 :: sl279 :: sl280 :: sl281 :: sl282 :: sl283 :: sl284 :: sl285 :: sl286 :: sl287 :: sl288 :: sl289 :: sl290 :: sl291 :: sl292 :: sl293 :: sl294 :: sl295 :: sl296 :: sl297 :: sl298 :: sl299 :: sl300 :: sl301 :: sl302 :: sl303 :: sl304 :: sl305 :: sl306 :: sl307 :: []).toArray, []⟩ w5 := by
  conv => arg 2; whnf
  refine wp_region_held_drew (S := (fun w' => w'.heap[wr.heap.size]? = some (.cells #[.int .u8 kd, .int .i64 nn, .int .i64 k1, .string s1, .string t1, .string l1, .int .i64 k2, .string s2, .string t2, .string l2, .int .i64 k3, .string s3, .string t3, .string l3, .int .i64 ka, .int .i64 kb, .int .i64 kc] 67 (0, 0)))) (by kernel_rfl) ?hSpl0 (fun hHeld => ?_)
  case hSpl0 => exact HX5.out
  refine wpAnyH_take (i := 0) (oi := ⟨some 92, _, _, _, _, _⟩) (v := ?vpl0) rfl (by kernel_rfl) (by kernel_rfl) (by kernel_rfl) (fun _ _ _ h => hP _ _ _ _ (by rfl) h) (Or.inl ⟨by kernel_rfl, ?ypl0⟩) (by assumption) ?rpl0
  case ypl0 =>
    intro w hSw
    try dsimp only at hSw
    obtain ⟨c0, c1, c2, c3, c4, c5, c6, c7, c8, c9, c10, c11, c12, c13, c14, c15, c16⟩ := cells17 hSw
    first | (go_simp; done) | (go_simp; with_reducible rfl)
  try simp only [Act.put, List.setIfInBounds_toArray, List.set_cons_zero, List.set_cons_succ]
  refine wpAnyH_take (i := 1) (oi := ⟨some 93, _, _, _, _, _⟩) (v := ?vpl1) rfl (by kernel_rfl) (by kernel_rfl) (by kernel_rfl) (fun _ _ _ h => hP _ _ _ _ (by rfl) h) (Or.inl ⟨by kernel_rfl, ?ypl1⟩) (by assumption) ?rpl1
  case ypl1 =>
    intro w hSw
    try dsimp only at hSw
    obtain ⟨c0, c1, c2, c3, c4, c5, c6, c7, c8, c9, c10, c11, c12, c13, c14, c15, c16⟩ := cells17 hSw
    first | (go_simp; done) | (go_simp; with_reducible rfl)
  try simp only [Act.put, List.setIfInBounds_toArray, List.set_cons_zero, List.set_cons_succ]
  refine wpAnyH_take (i := 2) (oi := ⟨some 94, _, _, _, _, _⟩) (v := ?vpl2) rfl (by kernel_rfl) (by kernel_rfl) (by kernel_rfl) (fun _ _ _ h => hP _ _ _ _ (by rfl) h) (Or.inl ⟨by kernel_rfl, ?ypl2⟩) (by assumption) ?rpl2
  case ypl2 =>
    intro w hSw
    try dsimp only at hSw
    obtain ⟨c0, c1, c2, c3, c4, c5, c6, c7, c8, c9, c10, c11, c12, c13, c14, c15, c16⟩ := cells17 hSw
    first | (go_simp; done) | (go_simp; with_reducible rfl)
  try simp only [Act.put, List.setIfInBounds_toArray, List.set_cons_zero, List.set_cons_succ]
  refine wpAnyH_take (i := 4) (oi := ⟨some 96, _, _, _, _, _⟩) (v := ?vpl4) rfl (by kernel_rfl) (by kernel_rfl) (by kernel_rfl) (fun _ _ _ h => hP _ _ _ _ (by rfl) h) (Or.inl ⟨by kernel_rfl, ?ypl4⟩) (by assumption) ?rpl4
  case ypl4 =>
    intro w hSw
    try dsimp only at hSw
    obtain ⟨c0, c1, c2, c3, c4, c5, c6, c7, c8, c9, c10, c11, c12, c13, c14, c15, c16⟩ := cells17 hSw
    first | (go_simp; done) | (go_simp; with_reducible rfl)
  try simp only [Act.put, List.setIfInBounds_toArray, List.set_cons_zero, List.set_cons_succ]
  refine wpAnyH_take (i := 5) (oi := ⟨some 97, _, _, _, _, _⟩) (v := ?vpl5) rfl (by kernel_rfl) (by kernel_rfl) (by kernel_rfl) (fun _ _ _ h => hP _ _ _ _ (by rfl) h) (Or.inl ⟨by kernel_rfl, ?ypl5⟩) (by assumption) ?rpl5
  case ypl5 =>
    intro w hSw
    try dsimp only at hSw
    obtain ⟨c0, c1, c2, c3, c4, c5, c6, c7, c8, c9, c10, c11, c12, c13, c14, c15, c16⟩ := cells17 hSw
    first | (go_simp; done) | (go_simp; with_reducible rfl)
  try simp only [Act.put, List.setIfInBounds_toArray, List.set_cons_zero, List.set_cons_succ]
  refine wpAnyH_take (i := 6) (oi := ⟨some 98, _, _, _, _, _⟩) (v := ?vpl6) rfl (by kernel_rfl) (by kernel_rfl) (by kernel_rfl) (fun _ _ _ h => hP _ _ _ _ (by rfl) h) (Or.inl ⟨by kernel_rfl, ?ypl6⟩) (by assumption) ?rpl6
  case ypl6 =>
    intro w hSw
    try dsimp only at hSw
    obtain ⟨c0, c1, c2, c3, c4, c5, c6, c7, c8, c9, c10, c11, c12, c13, c14, c15, c16⟩ := cells17 hSw
    first | (go_simp; done) | (go_simp; with_reducible rfl)
  try simp only [Act.put, List.setIfInBounds_toArray, List.set_cons_zero, List.set_cons_succ]
  refine wpAnyH_take (i := 8) (oi := ⟨some 100, _, _, _, _, _⟩) (v := ?vpl8) rfl (by kernel_rfl) (by kernel_rfl) (by kernel_rfl) (fun _ _ _ h => hP _ _ _ _ (by rfl) h) (Or.inl ⟨by kernel_rfl, ?ypl8⟩) (by assumption) ?rpl8
  case ypl8 =>
    intro w hSw
    try dsimp only at hSw
    obtain ⟨c0, c1, c2, c3, c4, c5, c6, c7, c8, c9, c10, c11, c12, c13, c14, c15, c16⟩ := cells17 hSw
    first | (go_simp; done) | (go_simp; with_reducible rfl)
  try simp only [Act.put, List.setIfInBounds_toArray, List.set_cons_zero, List.set_cons_succ]
  refine wpAnyH_take (i := 9) (oi := ⟨some 101, _, _, _, _, _⟩) (v := ?vpl9) rfl (by kernel_rfl) (by kernel_rfl) (by kernel_rfl) (fun _ _ _ h => hP _ _ _ _ (by rfl) h) (Or.inl ⟨by kernel_rfl, ?ypl9⟩) (by assumption) ?rpl9
  case ypl9 =>
    intro w hSw
    try dsimp only at hSw
    obtain ⟨c0, c1, c2, c3, c4, c5, c6, c7, c8, c9, c10, c11, c12, c13, c14, c15, c16⟩ := cells17 hSw
    first | (go_simp; done) | (go_simp; with_reducible rfl)
  try simp only [Act.put, List.setIfInBounds_toArray, List.set_cons_zero, List.set_cons_succ]
  refine wpAnyH_take (i := 10) (oi := ⟨some 102, _, _, _, _, _⟩) (v := ?vpl10) rfl (by kernel_rfl) (by kernel_rfl) (by kernel_rfl) (fun _ _ _ h => hP _ _ _ _ (by rfl) h) (Or.inl ⟨by kernel_rfl, ?ypl10⟩) (by assumption) ?rpl10
  case ypl10 =>
    intro w hSw
    try dsimp only at hSw
    obtain ⟨c0, c1, c2, c3, c4, c5, c6, c7, c8, c9, c10, c11, c12, c13, c14, c15, c16⟩ := cells17 hSw
    first | (go_simp; done) | (go_simp; with_reducible rfl)
  try simp only [Act.put, List.setIfInBounds_toArray, List.set_cons_zero, List.set_cons_succ]
  refine wpAnyH_ready (rs := [3, 13]) (by kernel_rfl) (by simp) ?_
  refine AllReadyH.cons (i := 3) (o := ⟨some 95, _, _, _, _, _⟩) rfl (fun K hK => ?bpl3) (AllReadyH.cons (i := 13) (o := ⟨some 10, _, _, _, _, _⟩) rfl (fun K hK => ?bpl13) (AllReadyH.nil))
  case' bpl3 =>
    go_simp
    refine (HP1.out _).mono ?_
    rintro e z1 ⟨rfl, hb1⟩
    have G1 := Lib.hid ((Below.refl _ w5).drew.trans hb1)
    go_wp2_with fail
    refine hK.out _ _ ?_ (fun hHeld => ?_)
    · exact boxb (by assumption) hb1
    clear hK K
    try simp only [Act.put, List.setIfInBounds_toArray, List.set_cons_zero, List.set_cons_succ]
    refine wpAnyH_ready (rs := [7, 13]) (by kernel_rfl) (by simp) ?_
    refine AllReadyH.cons (i := 7) (o := ⟨some 99, _, _, _, _, _⟩) rfl (fun K hK => ?bplp37) (AllReadyH.cons (i := 13) (o := ⟨some 10, _, _, _, _, _⟩) rfl (fun K hK => ?bplp313) (AllReadyH.nil))
    case' bplp37 =>
      go_simp
      refine (HP2.out _).mono ?_
      rintro e z2 ⟨rfl, hb2⟩
      have G2 := Lib.hid (G1.out.trans (hb2.mono G1.out.size))
      go_wp2_with fail
      refine hK.out _ _ ?_ (fun hHeld => ?_)
      · exact boxb (by assumption) hb2
      clear hK K
      try simp only [Act.put, List.setIfInBounds_toArray, List.set_cons_zero, List.set_cons_succ]
      refine wpAnyH_ready (rs := [11, 13]) (by kernel_rfl) (by simp) ?_
      refine AllReadyH.cons (i := 11) (o := ⟨some 103, _, _, _, _, _⟩) rfl (fun K hK => ?bplp3p711) (AllReadyH.cons (i := 13) (o := ⟨some 10, _, _, _, _, _⟩) rfl (fun K hK => ?bplp3p713) (AllReadyH.nil))
      case' bplp3p711 =>
        go_simp
        refine (HP3.out _).mono ?_
        rintro e z3 ⟨rfl, hb3⟩
        have G3 := Lib.hid (G2.out.trans (hb3.mono G2.out.size))
        go_wp2_with fail
        refine hK.out _ _ ?_ (fun hHeld => ?_)
        · exact boxb (by assumption) hb3
        clear hK K
        try simp only [Act.put, List.setIfInBounds_toArray, List.set_cons_zero, List.set_cons_succ]
        refine wpAnyH_take (i := 12) (oi := ⟨some 104, _, _, _, _, _⟩) (v := ?vplp3p7p1112) rfl (by kernel_rfl) (by kernel_rfl) (by kernel_rfl) (fun _ _ _ h => hP _ _ _ _ (by rfl) h) (Or.inl ⟨by kernel_rfl, ?yplp3p7p1112⟩) (by assumption) ?rplp3p7p1112
        case yplp3p7p1112 =>
          intro w hSw
          try dsimp only at hSw
          obtain ⟨c0, c1, c2, c3, c4, c5, c6, c7, c8, c9, c10, c11, c12, c13, c14, c15, c16⟩ := cells17 hSw
          first | (go_simp; done) | (go_simp; with_reducible rfl)
        try simp only [Act.put, List.setIfInBounds_toArray, List.set_cons_zero, List.set_cons_succ]
        refine wpAnyH_ready (rs := [13]) (by kernel_rfl) (by simp) ?_
        refine AllReadyH.cons (i := 13) (o := ⟨some 10, _, _, _, _, _⟩) rfl (fun K hK => ?_) AllReadyH.nil
        go_simp
        refine hK.out _ _ ?_ (fun hHeld => ?_)
        · exact boxb (by assumption) ((Below.refl _ _).alloc (Nat.le_refl _) _)
        clear hK K
        try simp only [Act.put, List.setIfInBounds_toArray, List.set_cons_zero, List.set_cons_succ]
        refine wpAnyH_ready (rs := [14]) (by kernel_rfl) (by simp) ?_
        refine AllReadyH.cons (i := 14) (o := ⟨none, _, _, _, _, _⟩) rfl (fun K hK => ?_) AllReadyH.nil
        go_simp
        refine hK.out _ _ ?_ (fun hHeld => ?_)
        · exact boxb HX5.out (G3.out.alloc G3.out.size _)
        clear hK K
        try simp only [Act.put, List.setIfInBounds_toArray, List.set_cons_zero, List.set_cons_succ]
        refine wpAnyH_done (by kernel_rfl) ?_ _
      case' bplp3p713 =>
        go_simp
        have g2 := Lib.hid (G2.out.alloc G2.out.size (.cells #[.int .i64 0, .string ⟨#[]⟩, .string ⟨#[]⟩, .string ⟨#[]⟩, .int .i64 0, .string ⟨#[]⟩, .string ⟨#[]⟩, .string ⟨#[]⟩, .int .i64 0, .string ⟨#[]⟩, .string ⟨#[]⟩, .string ⟨#[]⟩] 51))
        have HN2 := Lib.hid (show (z2.alloc (.cells #[.int .i64 0, .string ⟨#[]⟩, .string ⟨#[]⟩, .string ⟨#[]⟩, .int .i64 0, .string ⟨#[]⟩, .string ⟨#[]⟩, .string ⟨#[]⟩, .int .i64 0, .string ⟨#[]⟩, .string ⟨#[]⟩, .string ⟨#[]⟩] 51)).heap[z2.heap.size]? = some (.cells #[.int .i64 0, .string ⟨#[]⟩, .string ⟨#[]⟩, .string ⟨#[]⟩, .int .i64 0, .string ⟨#[]⟩, .string ⟨#[]⟩, .string ⟨#[]⟩, .int .i64 0, .string ⟨#[]⟩, .string ⟨#[]⟩, .string ⟨#[]⟩] 51 (0, 0)) from box_new z2 _ _)
        refine hK.out _ _ ?_ (fun hHeld => ?_)
        · exact boxb (by assumption) ((Below.refl _ _).alloc (Nat.le_refl _) _)
        clear hK K
        try simp only [Act.put, List.setIfInBounds_toArray, List.set_cons_zero, List.set_cons_succ]
        refine wpAnyH_ready (rs := [11]) (by kernel_rfl) (by simp) ?_
        refine AllReadyH.cons (i := 11) (o := ⟨some 103, _, _, _, _, _⟩) rfl (fun K hK => ?_) AllReadyH.nil
        go_simp
        refine (HP3.out _).mono ?_
        rintro e z3 ⟨rfl, hb3⟩
        have G3 := Lib.hid (g2.out.trans (hb3.mono g2.out.size))
        have HN3 := Lib.hid (box_below HN2.out hb3)
        obtain ⟨n0, n1, n2, n3, n4, n5, n6, n7, n8, n9, n10, n11⟩ := cells12 HN3.out
        obtain ⟨f0, f1, f2, f3, f4, f5, f6, f7, f8, f9, f10, f11⟩ := froz12 HN3.out
        go_wp2_with fail
        refine hK.out _ _ ?_ (fun hHeld => ?_)
        · exact boxb (by assumption) hb3
        clear hK K
        try simp only [Act.put, List.setIfInBounds_toArray, List.set_cons_zero, List.set_cons_succ]
        refine wpAnyH_take (i := 12) (oi := ⟨some 104, _, _, _, _, _⟩) (v := ?vplp3p7p1312) rfl (by kernel_rfl) (by kernel_rfl) (by kernel_rfl) (fun _ _ _ h => hP _ _ _ _ (by rfl) h) (Or.inl ⟨by kernel_rfl, ?yplp3p7p1312⟩) (by assumption) ?rplp3p7p1312
        case yplp3p7p1312 =>
          intro w hSw
          try dsimp only at hSw
          obtain ⟨c0, c1, c2, c3, c4, c5, c6, c7, c8, c9, c10, c11, c12, c13, c14, c15, c16⟩ := cells17 hSw
          first | (go_simp; done) | (go_simp; with_reducible rfl)
        try simp only [Act.put, List.setIfInBounds_toArray, List.set_cons_zero, List.set_cons_succ]
        refine wpAnyH_ready (rs := [14]) (by kernel_rfl) (by simp) ?_
        refine AllReadyH.cons (i := 14) (o := ⟨none, _, _, _, _, _⟩) rfl (fun K hK => ?_) AllReadyH.nil
        go_simp
        refine hK.out _ _ ?_ (fun hHeld => ?_)
        · exact boxb HX5.out (below12 G3.out G2.out.size _ _ _ _ _ _ _ _ _ _ _ _)
        clear hK K
        try simp only [Act.put, List.setIfInBounds_toArray, List.set_cons_zero, List.set_cons_succ]
        refine wpAnyH_done (by kernel_rfl) ?_ _
    case' bplp313 =>
      go_simp
      have g1 := Lib.hid (G1.out.alloc G1.out.size (.cells #[.int .i64 0, .string ⟨#[]⟩, .string ⟨#[]⟩, .string ⟨#[]⟩, .int .i64 0, .string ⟨#[]⟩, .string ⟨#[]⟩, .string ⟨#[]⟩, .int .i64 0, .string ⟨#[]⟩, .string ⟨#[]⟩, .string ⟨#[]⟩] 51))
      have HN1 := Lib.hid (show (z1.alloc (.cells #[.int .i64 0, .string ⟨#[]⟩, .string ⟨#[]⟩, .string ⟨#[]⟩, .int .i64 0, .string ⟨#[]⟩, .string ⟨#[]⟩, .string ⟨#[]⟩, .int .i64 0, .string ⟨#[]⟩, .string ⟨#[]⟩, .string ⟨#[]⟩] 51)).heap[z1.heap.size]? = some (.cells #[.int .i64 0, .string ⟨#[]⟩, .string ⟨#[]⟩, .string ⟨#[]⟩, .int .i64 0, .string ⟨#[]⟩, .string ⟨#[]⟩, .string ⟨#[]⟩, .int .i64 0, .string ⟨#[]⟩, .string ⟨#[]⟩, .string ⟨#[]⟩] 51 (0, 0)) from box_new z1 _ _)
      refine hK.out _ _ ?_ (fun hHeld => ?_)
      · exact boxb (by assumption) ((Below.refl _ _).alloc (Nat.le_refl _) _)
      clear hK K
      try simp only [Act.put, List.setIfInBounds_toArray, List.set_cons_zero, List.set_cons_succ]
      refine wpAnyH_ready (rs := [7]) (by kernel_rfl) (by simp) ?_
      refine AllReadyH.cons (i := 7) (o := ⟨some 99, _, _, _, _, _⟩) rfl (fun K hK => ?_) AllReadyH.nil
      go_simp
      refine (HP2.out _).mono ?_
      rintro e z2 ⟨rfl, hb2⟩
      have G2 := Lib.hid (g1.out.trans (hb2.mono g1.out.size))
      have HN2 := Lib.hid (box_below HN1.out hb2)
      go_wp2_with fail
      refine hK.out _ _ ?_ (fun hHeld => ?_)
      · exact boxb (by assumption) hb2
      clear hK K
      try simp only [Act.put, List.setIfInBounds_toArray, List.set_cons_zero, List.set_cons_succ]
      refine wpAnyH_ready (rs := [11]) (by kernel_rfl) (by simp) ?_
      refine AllReadyH.cons (i := 11) (o := ⟨some 103, _, _, _, _, _⟩) rfl (fun K hK => ?_) AllReadyH.nil
      go_simp
      refine (HP3.out _).mono ?_
      rintro e z3 ⟨rfl, hb3⟩
      have G3 := Lib.hid (G2.out.trans (hb3.mono G2.out.size))
      have HN3 := Lib.hid (box_below HN2.out hb3)
      obtain ⟨n0, n1, n2, n3, n4, n5, n6, n7, n8, n9, n10, n11⟩ := cells12 HN3.out
      obtain ⟨f0, f1, f2, f3, f4, f5, f6, f7, f8, f9, f10, f11⟩ := froz12 HN3.out
      go_wp2_with fail
      refine hK.out _ _ ?_ (fun hHeld => ?_)
      · exact boxb (by assumption) hb3
      clear hK K
      try simp only [Act.put, List.setIfInBounds_toArray, List.set_cons_zero, List.set_cons_succ]
      refine wpAnyH_take (i := 12) (oi := ⟨some 104, _, _, _, _, _⟩) (v := ?vplp3p1312) rfl (by kernel_rfl) (by kernel_rfl) (by kernel_rfl) (fun _ _ _ h => hP _ _ _ _ (by rfl) h) (Or.inl ⟨by kernel_rfl, ?yplp3p1312⟩) (by assumption) ?rplp3p1312
      case yplp3p1312 =>
        intro w hSw
        try dsimp only at hSw
        obtain ⟨c0, c1, c2, c3, c4, c5, c6, c7, c8, c9, c10, c11, c12, c13, c14, c15, c16⟩ := cells17 hSw
        first | (go_simp; done) | (go_simp; with_reducible rfl)
      try simp only [Act.put, List.setIfInBounds_toArray, List.set_cons_zero, List.set_cons_succ]
      refine wpAnyH_ready (rs := [14]) (by kernel_rfl) (by simp) ?_
      refine AllReadyH.cons (i := 14) (o := ⟨none, _, _, _, _, _⟩) rfl (fun K hK => ?_) AllReadyH.nil
      go_simp
      refine hK.out _ _ ?_ (fun hHeld => ?_)
      · exact boxb HX5.out (below12 G3.out G1.out.size _ _ _ _ _ _ _ _ _ _ _ _)
      clear hK K
      try simp only [Act.put, List.setIfInBounds_toArray, List.set_cons_zero, List.set_cons_succ]
      refine wpAnyH_done (by kernel_rfl) ?_ _
  case' bpl13 =>
    go_simp
    have g0 : Below w5.heap.size w5 (w5.drew.alloc (.cells #[.int .i64 0, .string ⟨#[]⟩, .string ⟨#[]⟩, .string ⟨#[]⟩, .int .i64 0, .string ⟨#[]⟩, .string ⟨#[]⟩, .string ⟨#[]⟩, .int .i64 0, .string ⟨#[]⟩, .string ⟨#[]⟩, .string ⟨#[]⟩] 51)) := (Below.refl _ w5).drew.alloc (Nat.le_refl _) _
    have HN0 := Lib.hid (show (w5.drew.alloc (.cells #[.int .i64 0, .string ⟨#[]⟩, .string ⟨#[]⟩, .string ⟨#[]⟩, .int .i64 0, .string ⟨#[]⟩, .string ⟨#[]⟩, .string ⟨#[]⟩, .int .i64 0, .string ⟨#[]⟩, .string ⟨#[]⟩, .string ⟨#[]⟩] 51)).heap[w5.heap.size]? = some (.cells #[.int .i64 0, .string ⟨#[]⟩, .string ⟨#[]⟩, .string ⟨#[]⟩, .int .i64 0, .string ⟨#[]⟩, .string ⟨#[]⟩, .string ⟨#[]⟩, .int .i64 0, .string ⟨#[]⟩, .string ⟨#[]⟩, .string ⟨#[]⟩] 51 (0, 0)) from box_new w5.drew _ _)
    refine hK.out _ _ ?_ (fun hHeld => ?_)
    · exact boxb (by assumption) ((Below.refl _ _).alloc (Nat.le_refl _) _)
    clear hK K
    try simp only [Act.put, List.setIfInBounds_toArray, List.set_cons_zero, List.set_cons_succ]
    refine wpAnyH_ready (rs := [3]) (by kernel_rfl) (by simp) ?_
    refine AllReadyH.cons (i := 3) (o := ⟨some 95, _, _, _, _, _⟩) rfl (fun K hK => ?_) AllReadyH.nil
    go_simp
    refine (HP1.out _).mono ?_
    rintro e z1 ⟨rfl, hb1⟩
    have G1 := Lib.hid (g0.trans (hb1.mono g0.size))
    have HN1 := Lib.hid (box_below HN0.out hb1)
    go_wp2_with fail
    refine hK.out _ _ ?_ (fun hHeld => ?_)
    · exact boxb (by assumption) hb1
    clear hK K
    try simp only [Act.put, List.setIfInBounds_toArray, List.set_cons_zero, List.set_cons_succ]
    refine wpAnyH_ready (rs := [7]) (by kernel_rfl) (by simp) ?_
    refine AllReadyH.cons (i := 7) (o := ⟨some 99, _, _, _, _, _⟩) rfl (fun K hK => ?_) AllReadyH.nil
    go_simp
    refine (HP2.out _).mono ?_
    rintro e z2 ⟨rfl, hb2⟩
    have G2 := Lib.hid (G1.out.trans (hb2.mono G1.out.size))
    have HN2 := Lib.hid (box_below HN1.out hb2)
    go_wp2_with fail
    refine hK.out _ _ ?_ (fun hHeld => ?_)
    · exact boxb (by assumption) hb2
    clear hK K
    try simp only [Act.put, List.setIfInBounds_toArray, List.set_cons_zero, List.set_cons_succ]
    refine wpAnyH_ready (rs := [11]) (by kernel_rfl) (by simp) ?_
    refine AllReadyH.cons (i := 11) (o := ⟨some 103, _, _, _, _, _⟩) rfl (fun K hK => ?_) AllReadyH.nil
    go_simp
    refine (HP3.out _).mono ?_
    rintro e z3 ⟨rfl, hb3⟩
    have G3 := Lib.hid (G2.out.trans (hb3.mono G2.out.size))
    have HN3 := Lib.hid (box_below HN2.out hb3)
    obtain ⟨n0, n1, n2, n3, n4, n5, n6, n7, n8, n9, n10, n11⟩ := cells12 HN3.out
    obtain ⟨f0, f1, f2, f3, f4, f5, f6, f7, f8, f9, f10, f11⟩ := froz12 HN3.out
    go_wp2_with fail
    refine hK.out _ _ ?_ (fun hHeld => ?_)
    · exact boxb (by assumption) hb3
    clear hK K
    try simp only [Act.put, List.setIfInBounds_toArray, List.set_cons_zero, List.set_cons_succ]
    refine wpAnyH_take (i := 12) (oi := ⟨some 104, _, _, _, _, _⟩) (v := ?vplp1312) rfl (by kernel_rfl) (by kernel_rfl) (by kernel_rfl) (fun _ _ _ h => hP _ _ _ _ (by rfl) h) (Or.inl ⟨by kernel_rfl, ?yplp1312⟩) (by assumption) ?rplp1312
    case yplp1312 =>
      intro w hSw
      try dsimp only at hSw
      obtain ⟨c0, c1, c2, c3, c4, c5, c6, c7, c8, c9, c10, c11, c12, c13, c14, c15, c16⟩ := cells17 hSw
      first | (go_simp; done) | (go_simp; with_reducible rfl)
    try simp only [Act.put, List.setIfInBounds_toArray, List.set_cons_zero, List.set_cons_succ]
    refine wpAnyH_ready (rs := [14]) (by kernel_rfl) (by simp) ?_
    refine AllReadyH.cons (i := 14) (o := ⟨none, _, _, _, _, _⟩) rfl (fun K hK => ?_) AllReadyH.nil
    go_simp
    refine hK.out _ _ ?_ (fun hHeld => ?_)
    · exact boxb HX5.out (below12 G3.out (Nat.le_refl _) _ _ _ _ _ _ _ _ _ _ _ _)
    clear hK K
    try simp only [Act.put, List.setIfInBounds_toArray, List.set_cons_zero, List.set_cons_succ]
    refine wpAnyH_done (by kernel_rfl) ?_ _
  case bpl13 =>
    obtain ⟨W6, hW6⟩ : ∃ W6, W6 = ((((((((((((z3.setCell ⟨w5.heap.size, 0, none⟩ (.int .i64 kx1)).setCell ⟨w5.heap.size, 1, none⟩ (.string xs1)).setCell ⟨w5.heap.size, 2, none⟩ (.string xt1)).setCell ⟨w5.heap.size, 3, none⟩ (.string xl1)).setCell ⟨w5.heap.size, 4, none⟩ (.int .i64 kx2)).setCell ⟨w5.heap.size, 5, none⟩ (.string xs2)).setCell ⟨w5.heap.size, 6, none⟩ (.string xt2)).setCell ⟨w5.heap.size, 7, none⟩ (.string xl2)).setCell ⟨w5.heap.size, 8, none⟩ (.int .i64 kx3)).setCell ⟨w5.heap.size, 9, none⟩ (.string xs3)).setCell ⟨w5.heap.size, 10, none⟩ (.string xt3)).setCell ⟨w5.heap.size, 11, none⟩ (.string xl3)) := ⟨_, rfl⟩
    have hb : Below w5.heap.size w5 W6 := by rw [hW6]; exact below12 G3.out (Nat.le_refl _) _ _ _ _ _ _ _ _ _ _ _ _
    obtain ⟨q, hq0⟩ : ∃ q, q = w5.heap.size := ⟨_, rfl⟩
    have hq : W6.heap[q]? = some (.cells #[.int .i64 kx1, .string xs1, .string xt1, .string xl1, .int .i64 kx2, .string xs2, .string xt2, .string xl2, .int .i64 kx3, .string xs3, .string xt3, .string xl3] 51 (0, 0)) := by rw [hW6, hq0]; exact set12 HN3.out _ _ _ _ _ _ _ _ _ _ _ _
    rw [← hW6, ← hq0]
    exact hK _ _ _ _ _ _ _ _ _ _ _ _ _ q W6 (Lib.hid ⟨hb, hq⟩)
  case bplp313 =>
    obtain ⟨W6, hW6⟩ : ∃ W6, W6 = ((((((((((((z3.setCell ⟨z1.heap.size, 0, none⟩ (.int .i64 kx1)).setCell ⟨z1.heap.size, 1, none⟩ (.string xs1)).setCell ⟨z1.heap.size, 2, none⟩ (.string xt1)).setCell ⟨z1.heap.size, 3, none⟩ (.string xl1)).setCell ⟨z1.heap.size, 4, none⟩ (.int .i64 kx2)).setCell ⟨z1.heap.size, 5, none⟩ (.string xs2)).setCell ⟨z1.heap.size, 6, none⟩ (.string xt2)).setCell ⟨z1.heap.size, 7, none⟩ (.string xl2)).setCell ⟨z1.heap.size, 8, none⟩ (.int .i64 kx3)).setCell ⟨z1.heap.size, 9, none⟩ (.string xs3)).setCell ⟨z1.heap.size, 10, none⟩ (.string xt3)).setCell ⟨z1.heap.size, 11, none⟩ (.string xl3)) := ⟨_, rfl⟩
    have hb : Below w5.heap.size w5 W6 := by rw [hW6]; exact below12 G3.out G1.out.size _ _ _ _ _ _ _ _ _ _ _ _
    obtain ⟨q, hq0⟩ : ∃ q, q = z1.heap.size := ⟨_, rfl⟩
    have hq : W6.heap[q]? = some (.cells #[.int .i64 kx1, .string xs1, .string xt1, .string xl1, .int .i64 kx2, .string xs2, .string xt2, .string xl2, .int .i64 kx3, .string xs3, .string xt3, .string xl3] 51 (0, 0)) := by rw [hW6, hq0]; exact set12 HN3.out _ _ _ _ _ _ _ _ _ _ _ _
    rw [← hW6, ← hq0]
    exact hK _ _ _ _ _ _ _ _ _ _ _ _ _ q W6 (Lib.hid ⟨hb, hq⟩)
  case bplp3p713 =>
    obtain ⟨W6, hW6⟩ : ∃ W6, W6 = ((((((((((((z3.setCell ⟨z2.heap.size, 0, none⟩ (.int .i64 kx1)).setCell ⟨z2.heap.size, 1, none⟩ (.string xs1)).setCell ⟨z2.heap.size, 2, none⟩ (.string xt1)).setCell ⟨z2.heap.size, 3, none⟩ (.string xl1)).setCell ⟨z2.heap.size, 4, none⟩ (.int .i64 kx2)).setCell ⟨z2.heap.size, 5, none⟩ (.string xs2)).setCell ⟨z2.heap.size, 6, none⟩ (.string xt2)).setCell ⟨z2.heap.size, 7, none⟩ (.string xl2)).setCell ⟨z2.heap.size, 8, none⟩ (.int .i64 kx3)).setCell ⟨z2.heap.size, 9, none⟩ (.string xs3)).setCell ⟨z2.heap.size, 10, none⟩ (.string xt3)).setCell ⟨z2.heap.size, 11, none⟩ (.string xl3)) := ⟨_, rfl⟩
    have hb : Below w5.heap.size w5 W6 := by rw [hW6]; exact below12 G3.out G2.out.size _ _ _ _ _ _ _ _ _ _ _ _
    obtain ⟨q, hq0⟩ : ∃ q, q = z2.heap.size := ⟨_, rfl⟩
    have hq : W6.heap[q]? = some (.cells #[.int .i64 kx1, .string xs1, .string xt1, .string xl1, .int .i64 kx2, .string xs2, .string xt2, .string xl2, .int .i64 kx3, .string xs3, .string xt3, .string xl3] 51 (0, 0)) := by rw [hW6, hq0]; exact set12 HN3.out _ _ _ _ _ _ _ _ _ _ _ _
    rw [← hW6, ← hq0]
    exact hK _ _ _ _ _ _ _ _ _ _ _ _ _ q W6 (Lib.hid ⟨hb, hq⟩)
  case bplp3p711 =>
    obtain ⟨W6, hW6⟩ : ∃ W6, W6 = z3.alloc (.cells #[.int .i64 kx1, .string xs1, .string xt1, .string xl1, .int .i64 kx2, .string xs2, .string xt2, .string xl2, .int .i64 kx3, .string xs3, .string xt3, .string xl3] 51) := ⟨_, rfl⟩
    have hb : Below w5.heap.size w5 W6 := by rw [hW6]; exact G3.out.alloc G3.out.size _
    obtain ⟨q, hq0⟩ : ∃ q, q = z3.heap.size := ⟨_, rfl⟩
    have hq : W6.heap[q]? = some (.cells #[.int .i64 kx1, .string xs1, .string xt1, .string xl1, .int .i64 kx2, .string xs2, .string xt2, .string xl2, .int .i64 kx3, .string xs3, .string xt3, .string xl3] 51 (0, 0)) := by rw [hW6, hq0]; exact box_new z3 _ _
    rw [← hW6, ← hq0]
    exact hK _ _ _ _ _ _ _ _ _ _ _ _ _ q W6 (Lib.hid ⟨hb, hq⟩)
end Go.Proofs.Ytghimladdioajaa
namespace Go.Proofs.Ytghimladdioajaa
open Go Go.RowKit
set_option linter.unusedVariables false
set_option linter.unusedSimpArgs false
set_option maxRecDepth 100000
set_option maxHeartbeats 12800000 in
theorem plays_arm0 {G : Tm → Bool} (HG : Hid (GoodFn G)) {w w2 wr w6 : World} (HM : Hid (MaxV w)) {p m q : Nat} {room : Int} (HRO : Hid (1 ≤ room ∧ room ≤ 65536)) {av : Option Addr} {cv : Nat} {ts : List Tm} (HB6 : Hid (BothV G w p m w2.heap.size room (.slice av ts.length cv) ts w6)) {kd nn k1 : Int} {s1 t1 l1 : ByteArray} {k2 : Int} {s2 t2 l2 : ByteArray} {k3 : Int} {s3 t3 l3 : ByteArray} {ka kb kc kx1 : Int} {xs1 xt1 xl1 : ByteArray} {kx2 : Int} {xs2 xt2 xl2 : ByteArray} {kx3 : Int} {xs3 xt3 xl3 : ByteArray} (HX6 : Hid (w6.heap[wr.heap.size]? = some (.cells #[.int .u8 kd, .int .i64 nn, .int .i64 k1, .string s1, .string t1, .string l1, .int .i64 k2, .string s2, .string t2, .string l2, .int .i64 k3, .string s3, .string t3, .string l3, .int .i64 ka, .int .i64 kb, .int .i64 kc] 67 (0, 0)))) (HT6 : Hid (w6.heap[q]? = some (.cells #[.int .i64 kx1, .string xs1, .string xt1, .string xl1, .int .i64 kx2, .string xs2, .string xt2, .string xl2, .int .i64 kx3, .string xs3, .string xt3, .string xl3] 51 (0, 0)))) {X1 X2 X3 : Tm} (HSK : Hid ((Small X1 ∧ Small X2 ∧ Small X3) ∧ KeyT X1 ∧ KeyT X2 ∧ KeyT X3)) (HV : Hid (kx1 = kindV X1 ∧ xs1 = text0 X1 ∧ xt1 = text1 X1 ∧ xl1 = text2 X1 ∧ kx2 = kindV X2 ∧ xs2 = text0 X2 ∧ xt2 = text1 X2 ∧ xl2 = text2 X2 ∧ kx3 = kindV X3 ∧ xs3 = text0 X3 ∧ xt3 = text1 X3 ∧ xl3 = text2 X3)) {xv : Value} (HXV : Hid (xv = tmV X3)) (HKD : Hid (0 ≤ kd ∧ kd ≤ 255)) (hkm : kd % 7 = 0)
    {sl0 sl1 sl2 sl3 sl4 sl6 sl8 sl12 sl13 sl14 sl15 sl16 sl17 sl18 sl19 sl20 sl21 sl22 sl23 sl24 sl25 sl26 sl27 sl28 sl29 sl30 sl31 sl32 sl33 sl34 sl35 sl36 sl37 sl38 sl39 sl40 sl41 sl42 sl43 sl44 sl45 sl46 sl47 sl48 sl49 sl50 sl51 sl52 sl53 sl54 sl55 sl56 sl57 sl58 sl59 sl60 sl61 sl62 sl63 sl64 sl65 sl66 sl67 sl68 sl69 sl70 sl71 sl72 sl73 sl74 sl75 sl76 sl77 sl78 sl79 sl80 sl81 sl82 sl83 sl84 sl85 sl86 sl87 sl88 sl89 sl90 sl91 sl92 sl93 sl94 sl95 sl96 sl97 sl98 sl99 sl100 sl101 sl102 sl103 sl104 sl105 sl106 sl107 sl108 sl109 sl111 sl112 sl113 sl114 sl115 sl116 sl117 sl118 sl119 sl120 sl121 sl122 sl123 sl124 sl125 sl126 sl127 sl128 sl129 sl130 sl131 sl132 sl133 sl134 sl135 sl136 sl137 sl138 sl139 sl140 sl141 sl142 sl143 sl144 sl145 sl146 sl147 sl148 sl149 sl150 sl151 sl152 sl153 sl154 sl155 sl156 sl157 sl158 sl159 sl160 sl161 sl162 sl163 sl164 sl165 sl166 sl167 sl168 sl169 sl170 sl171 sl172 sl173 sl174 sl175 sl176 sl177 sl178 sl179 sl180 sl181 sl182 sl183 sl184 sl185 sl186 sl187 sl188 sl189 sl190 sl191 sl192 sl193 sl194 sl195 sl196 sl197 sl198 sl199 sl200 sl201 sl202 sl203 sl204 sl205 sl206 sl207 sl208 sl209 sl210 sl211 sl212 sl213 sl214 sl215 sl216 sl217 sl218 sl219 sl220 sl221 sl222 sl223 sl224 sl225 sl226 sl227 sl228 sl229 sl230 sl231 sl232 sl233 sl234 sl235 sl236 sl237 sl238 sl239 sl240 sl241 sl242 sl243 sl244 sl245 sl246 sl247 sl248 sl249 sl250 sl251 sl252 sl253 sl254 sl255 sl256 sl257 sl258 sl259 sl260 sl261 sl262 sl263 sl264 sl265 sl266 sl267 sl268 sl269 sl270 sl271 sl272 sl273 sl274 sl275 sl276 sl277 sl278 sl279 sl280 sl281 sl282 sl283 sl284 sl285 sl286 sl287 sl288 sl289 sl290 sl291 sl292 sl293 sl294 sl295 sl296 sl297 sl298 sl299 sl300 sl301 sl302 sl303 sl304 sl305 sl306 sl307 : Value} (J K' : Act → World → Prop) (Q' : Exit → Act → World → Prop) (hP : ∀ c (a a' : Act) w, a.defers = a'.defers → Q' (.panic c) a w → Q' (.panic c) a' w) (h1 : ∀ a' w', (∃ ul4 ul12 ul13 ul14 ul15 ul16 ul17 ul18 ul19 ul20 ul21 ul22 ul23 ul24 ul25 ul26 ul27 ul28 ul29 ul30 ul31 ul32 ul33 ul111 ul112 ul113 ul114 ul115 ul116 ul117 ul118 ul119 ul120 ul121 ul122 ul123 ul124 ul125 ul126 ul127 ul128 ul129 ul130 ul131 ul132 ul133 ul134 ul135 ul136 ul137 ul138 ul139 ul140 ul141 ul142 ul143 ul144 ul145 ul146 ul147 ul148 ul149 ul150 ul151 ul152 ul153 ul154 ul155 ul156 ul157 ul158 ul159 ul160 ul161 ul162 ul163 ul164 ul165 ul166 ul167 ul168 ul169 ul170 ul171 ul172 ul173 ul174 ul175 ul176 ul177 ul178 ul179 ul180 ul181 ul182 ul183 ul184 ul185 ul186 ul187 ul188 ul189 ul190 ul191 ul192 ul193 ul194 ul195 ul196 ul197 ul198 ul199 ul200 ul201 ul202 ul203 ul204 ul205 ul206 ul207 ul208 ul209 ul210 ul211 ul212 ul213 ul214 ul215 ul216 ul217 ul218 ul219 ul220 ul221 ul222 ul223 ul224 ul225 ul226 ul227 ul228 ul229 ul230 ul231 ul232 ul233 ul234 ul235 ul236 ul237 ul238 ul239 ul240 ul241 ul242 ul243 ul244 ul245 ul246 ul247 ul248 ul249 ul250 ul251 ul252 ul253 ul254 ul255 ul256 ul257 ul258 ul259 ul260 ul261 ul262 ul263 ul264 ul265 ul266 ul267 ul268 ul269 ul270 ul271 ul272 ul273 ul274 ul275 ul276 ul277 ul278 ul279 ul280 ul281 ul282 ul283 ul284 ul285 ul286 ul287 ul288 ul289 ul290 ul291 ul292 ul293 ul294 ul295 ul296 ul297 ul298 ul299 ul300 ul301 ul302 : Value, Hid (∃ ts' V', BothV G w p m w2.heap.size room V' ts' w') ∧ a' = ⟨(sl0 :: sl1 :: sl2 :: sl3 :: ul4 :: .pointer (some ⟨p, 0, none⟩) :: sl6 :: .pointer (some ⟨w2.heap.size, 0, none⟩) :: sl8 :: .pointer (some ⟨wr.heap.size, 0, none⟩) :: .pointer (some ⟨q, 0, none⟩) :: xv :: ul12 :: ul13 :: ul14 :: ul15 :: ul16 :: ul17 :: ul18 :: ul19 :: ul20 :: ul21 :: ul22 :: ul23 :: ul24 :: ul25 :: ul26 :: ul27 :: ul28 :: ul29 :: ul30 :: ul31 :: ul32 :: ul33 :: sl34 :: sl35 :: sl36 :: sl37 :: sl38 :: sl39 :: sl40 :: sl41 :: sl42 :: sl43 :: sl44 :: sl45 :: sl46 :: sl47 :: sl48 :: sl49 :: sl50 :: sl51 :: sl52 :: sl53 :: sl54 :: sl55 :: sl56 :: sl57 :: sl58 :: sl59 :: sl60 :: sl61 :: sl62 :: sl63 :: sl64 :: sl65 :: sl66 :: sl67 :: sl68 :: sl69 :: sl70 :: sl71 :: sl72 :: sl73 :: sl74 :: sl75 :: sl76 :: sl77 :: sl78 :: sl79 :: sl80 :: sl81 :: sl82 :: sl83 :: sl84 :: sl85 :: sl86 :: sl87 :: sl88 :: sl89 :: sl90 :: sl91 :: sl92 :: sl93 :: sl94 :: sl95 :: sl96 :: sl97 :: sl98 :: sl99 :: sl100 :: sl101 :: sl102 :: sl103 :: sl104 :: sl105 :: sl106 :: sl107 :: sl108 :: sl109 :: .int .u8 (kd % 7) :: ul111 :: ul112 :: ul113 :: ul114 :: ul115 :: ul116 :: ul117 :: ul118 :: ul119 :: ul120 :: ul121 :: ul122 :: ul123 :: ul124 :: ul125 :: ul126 :: ul127 :: ul128 :: ul129 :: ul130 :: ul131 :: ul132 :: ul133 :: ul134 :: ul135 :: ul136 :: ul137 :: ul138 :: ul139 :: ul140 :: ul141 :: ul142 :: ul143 :: ul144 :: ul145 :: ul146 :: ul147 :: ul148 :: ul149 :: ul150 :: ul151 :: ul152 :: ul153 :: ul154 :: ul155 :: ul156 :: ul157 :: ul158 :: ul159 :: ul160 :: ul161 :: ul162 :: ul163 :: ul164 :: ul165 :: ul166 :: ul167 :: ul168 :: ul169 :: ul170 :: ul171 :: ul172 :: ul173 :: ul174 :: ul175 :: ul176 :: ul177 :: ul178 :: ul179 :: ul180 :: ul181 :: ul182 :: ul183 :: ul184 :: ul185 :: ul186 :: ul187 :: ul188 :: ul189 :: ul190 :: ul191 :: ul192 :: ul193 :: ul194 :: ul195 :: ul196 :: ul197 :: ul198 :: ul199 :: ul200 :: ul201 :: ul202 :: ul203 :: ul204 :: ul205 :: ul206 :: ul207 :: ul208 :: ul209 :: ul210 :: ul211 :: ul212 :: ul213 :: ul214 :: ul215 :: ul216 :: ul217 :: ul218 :: ul219 :: ul220 :: ul221 :: ul222 :: ul223 :: ul224 :: ul225 :: ul226 :: ul227 :: ul228 :: ul229 :: ul230 :: ul231 :: ul232 :: ul233 :: ul234 :: ul235 :: ul236 :: ul237 :: ul238 :: ul239 :: ul240 :: ul241 :: ul242 :: ul243 :: ul244 :: ul245 :: ul246 :: ul247 :: ul248 :: ul249 :: ul250 :: ul251 :: ul252 :: ul253 :: ul254 :: ul255 :: ul256 :: ul257 :: ul258 :: ul259 :: ul260 :: ul261 :: ul262 :: ul263 :: ul264 :: ul265 :: ul266 :: ul267 :: ul268 :: ul269 :: ul270 :: ul271 :: ul272 :: ul273 :: ul274 :: ul275 :: ul276 :: ul277 :: ul278 :: ul279 :: ul280 :: ul281 :: ul282 :: ul283 :: ul284 :: ul285 :: ul286 :: ul287 :: ul288 :: ul289 :: ul290 :: ul291 :: ul292 :: ul293 :: ul294 :: ul295 :: ul296 :: ul297 :: ul298 :: ul299 :: ul300 :: ul301 :: ul302 :: sl303 :: sl304 :: sl305 :: sl306 :: sl307 :: []).toArray, []⟩) → J a' w') (h2 : ∀ a' w', Met J a' w' → K' a' w') :
    Code.wp Try.prog ((Try.f6.body.bind (findC (isBlk 2))).getD .skip) (Exit.then K' Q') ⟨(sl0 :: sl1 :: sl2 :: sl3 :: sl4 :: .pointer (some ⟨p, 0, none⟩) :: sl6 :: .pointer (some ⟨w2.heap.size, 0, none⟩) :: sl8 :: .pointer (some ⟨wr.heap.size, 0, none⟩) :: .pointer (some ⟨q, 0, none⟩) :: xv :: sl12 :: sl13 :: sl14 :: sl15 :: sl16 :: sl17 :: sl18 :: sl19 :: sl20 :: sl21 :: sl22 :: sl23 :: sl24 :: sl25 :: sl26 :: sl27 :: sl28 :: sl29 :: sl30 :: sl31 :: sl32 :: sl33 :: sl34 :: sl35 :: sl36 :: sl37 :: sl38 :: sl39 :: sl40 :: sl41 :: sl42 :: sl43 :: sl44 :: sl45 :: sl46 :: sl47 :: sl48 :: sl49 :: sl50 :: sl51 :: sl52 :: sl53 :: sl54 :: sl55 :: sl56 :: sl57 :: sl58 :: sl59 :: sl60 :: sl61 :: sl62 :: sl63 :: sl64 :: sl65 :: sl66 :: sl67 :: sl68 :: sl69 :: sl70 :: sl71 :: sl72 :: sl73 :: sl74 :: sl75 :: sl76 :: sl77 :: sl78 :: sl79 :: sl80 :: sl81 :: sl82 :: sl83 :: sl84 :: sl85 :: sl86 :: sl87 :: sl88 :: sl89 :: sl90 :: sl91 :: sl92 :: sl93 :: sl94 :: sl95 :: sl96 :: sl97 :: sl98 :: sl99 :: sl100 :: sl101 :: sl102 :: sl103 :: sl104 :: sl105 :: sl106 :: sl107 :: sl108 :: sl109 :: .int .u8 (kd % 7) :: sl111 :: sl112 :: sl113 :: sl114 :: sl115 :: sl116 :: sl117 :: sl118 :: sl119 :: sl120 :: sl121 :: sl122 :: sl123 :: sl124 :: sl125 :: sl126 :: sl127 :: sl128 :: sl129 :: sl130 :: sl131 :: sl132 :: sl133 :: sl134 :: sl135 :: sl136 :: sl137 :: sl138 :: sl139 :: sl140 :: sl141 :: sl142 :: sl143 :: sl144 :: sl145 :: sl146 :: sl147 :: sl148 :: sl149 :: sl150 :: sl151 :: sl152 :: sl153 :: sl154 :: sl155 :: sl156 :: sl157 :: sl158 :: sl159 :: sl160 :: sl161 :: sl162 :: sl163 :: sl164 :: sl165 :: sl166 :: sl167 :: sl168 :: sl169 :: sl170 :: sl171 :: sl172 :: sl173 :: sl174 :: sl175 :: sl176 :: sl177 :: sl178 :: sl179 :: sl180 :: sl181 :: sl182 :: sl183 :: sl184 :: sl185 :: sl186 :: sl187 :: sl188 :: sl189 :: sl190 :: sl191 :: sl192 :: sl193 :: sl194 :: sl195 :: sl196 :: sl197 :: sl198 :: sl199 :: sl200 :: sl201 :: sl202 :: sl203 :: sl204 :: sl205 :: sl206 :: sl207 :: sl208 :: sl209 :: sl210 :: sl211 :: sl212 :: sl213 :: sl214 :: sl215 :: sl216 :: sl217 :: sl218 :: sl219 :: sl220 :: sl221 :: sl222 :: sl223 :: sl224 :: sl225 :: sl226 :: sl227 :: sl228 :: sl229 :: sl230 :: sl231 :: sl232 :: sl233 :: sl234 :: sl235 :: sl236 :: sl237 :: sl238 :: sl239 :: sl240 :: sl241 :: sl242 :: sl243 :: sl244 :: sl245 :: sl246 :: sl247 :: sl248 :: sl249 :: sl250 :: sl251 :: sl252 :: sl253 :: sl254 :: sl255 :: sl256 :: sl257 :: sl258 :: sl259 :: sl260 :: sl261 :: sl262 :: sl263 :: sl264 :: sl265 :: sl266 :: sl267 :: sl268 :: sl269 :: sl270 :: sl271 :: sl272 :: sl273 :: sl274 :: sl275 :: sl276 :: sl277 :: sl278 :: sl279 :: sl280 :: sl281 :: sl282 :: sl283 :: sl284 :: sl285 :: sl286 :: sl287 :: sl288 :: sl289 :: sl290 :: sl291 :: sl292 :: sl293 :: sl294 :: sl295 :: sl296 :: sl297 :: sl298 :: sl299 :: sl300 :: sl301 :: sl302 :: sl303 :: sl304 :: sl305 :: sl306 :: sl307 :: []).toArray, []⟩ w6 := by
  conv => arg 2; whnf
  have hk0 := HKD.out.1
  have hk1 := HKD.out.2
  have hq0 : (kd % 7 == 0) = true := by simp; omega
  clear hkm
  obtain ⟨c0, c1, c2, c3, c4, c5, c6, c7, c8, c9, c10, c11, c12, c13, c14, c15, c16⟩ := cells17 HX6.out
  obtain ⟨n0, n1, n2, n3, n4, n5, n6, n7, n8, n9, n10, n11⟩ := cells12 HT6.out
  have hl65 : ts.length ≤ 65536 := by obtain ⟨_, _, _, _, _, _, _, _, _, _, h8⟩ := HB6.out.1; exact h8
  obtain ⟨ts', N, C, hput⟩ : ∃ ts' N C, putT G room ts X3 = (ts', N, C) := ⟨_, _, _, rfl⟩
  have HRP := Lib.hid (fun w1 (h1 : DocRow w1 0 (.slice av ts.length cv) ts) => rput_any HG.out room _ ts X3 w1 h1 HSK.out.1.2.2 HSK.out.2.2.2 HB6.out.2.2.2.1.key (by omega))
  have HPU := Lib.hid (fun w1 (hm : MaxV w1) (hd : DcAt w.heap.size p m ts room w1) (hs : w.heap.size ≤ w1.heap.size) => put_any HG.out X3 HSK.out.1.2.2 hm hd HB6.out.2.2.2.2.1 HRO.out.2 hs)
  unfold RPut at HRP
  rw [hput] at HRP HPU
  dsimp only at HRP HPU
  unfold refT at HRP
  rw [← HV.out.2.2.2.2.2.2.2.2.1, ← HV.out.2.2.2.2.2.2.2.2.2.1, ← HV.out.2.2.2.2.2.2.2.2.2.2.1, ← HV.out.2.2.2.2.2.2.2.2.2.2.2] at HRP
  rw [← HXV.out] at HPU
  have HF' : Hid (Fine G ts') := Lib.hid (by have := fine_put (room := room) HB6.out.2.2.2.1 HSK.out.2.2.2 HSK.out.1.2.2; rw [hput] at this; exact this)
  clear hput hl65
  obtain ⟨x0, x1, x2, x3⟩ := cells2 HB6.out.2.1
  clear c0 c1 c2 c3 c4 c5 c6 c7 c8 c9 c10 c11 c12 c13 c14 c15 c16
  obtain ⟨c0, c1, c2, c3, c4, c5, c6, c7, c8, c9, c10, c11, c12, c13, c14, c15, c16⟩ := cells17 HX6.out
  go_wp2_with fail
  refine (HRP.out _ HB6.out.2.2.1).mono ?_
  rintro e w7 ⟨V', rfl, hr7, hb7⟩
  obtain ⟨av', cv', rfl⟩ := hr7.form
  have HB7 := Lib.hid ((HB6.out.below hb7).alloc (.cells #[.int .i64 room, .slice av' ts'.length cv'] 29))
  have HR7 := Lib.hid (hr7.below ((Below.refl _ _).alloc (Nat.le_refl _) (.cells #[.int .i64 room, .slice av' ts'.length cv'] 29)))
  have HN7 := Lib.hid (box_new w7 #[.int .i64 room, .slice av' ts'.length cv'] 29)
  clear hb7 hr7 x0 x1 x2 x3 c0 c1 c2 c3 c4 c5 c6 c7 c8 c9 c10 c11 c12 c13 c14 c15 c16 n0 n1 n2 n3 n4 n5 n6 n7 n8 n9 n10 n11
  go_wp2_with fail
  refine (HPU.out _ (HM.out.below HB7.out.bel) HB7.out.1 HB7.out.bel.size).mono ?_
  rintro e w8 ⟨rfl, hd8, hk8, hdist8⟩
  have HX8 := Lib.hid (HB7.out.next HR7.out HF'.out hd8 hk8 hdist8)
  obtain ⟨z0, z1, z2, z3⟩ := cells2 (HB7.out.1.box hk8 HN7.out (by decide) (by decide))
  obtain ⟨x0, x1, x2, x3⟩ := cells2 (HB7.out.1.box hk8 HB7.out.2.1 (by decide) (by decide))
  clear hd8 hk8 hdist8
  go_wp2_with fail
  go_meet
  case rel => exact Lib.hid ⟨_, _, HX8.out⟩
end Go.Proofs.Ytghimladdioajaa
namespace Go.Proofs.Ytghimladdioajaa
open Go Go.RowKit
set_option linter.unusedVariables false
set_option linter.unusedSimpArgs false
set_option maxRecDepth 100000
set_option maxHeartbeats 12800000 in
theorem plays_arm1 {G : Tm → Bool} (HG : Hid (GoodFn G)) {w w2 wr w6 : World} (HM : Hid (MaxV w)) {p m q : Nat} {room : Int} (HRO : Hid (1 ≤ room ∧ room ≤ 65536)) {av : Option Addr} {cv : Nat} {ts : List Tm} (HB6 : Hid (BothV G w p m w2.heap.size room (.slice av ts.length cv) ts w6)) {kd nn k1 : Int} {s1 t1 l1 : ByteArray} {k2 : Int} {s2 t2 l2 : ByteArray} {k3 : Int} {s3 t3 l3 : ByteArray} {ka kb kc kx1 : Int} {xs1 xt1 xl1 : ByteArray} {kx2 : Int} {xs2 xt2 xl2 : ByteArray} {kx3 : Int} {xs3 xt3 xl3 : ByteArray} (HX6 : Hid (w6.heap[wr.heap.size]? = some (.cells #[.int .u8 kd, .int .i64 nn, .int .i64 k1, .string s1, .string t1, .string l1, .int .i64 k2, .string s2, .string t2, .string l2, .int .i64 k3, .string s3, .string t3, .string l3, .int .i64 ka, .int .i64 kb, .int .i64 kc] 67 (0, 0)))) (HT6 : Hid (w6.heap[q]? = some (.cells #[.int .i64 kx1, .string xs1, .string xt1, .string xl1, .int .i64 kx2, .string xs2, .string xt2, .string xl2, .int .i64 kx3, .string xs3, .string xt3, .string xl3] 51 (0, 0)))) {X1 X2 X3 : Tm} (HSK : Hid ((Small X1 ∧ Small X2 ∧ Small X3) ∧ KeyT X1 ∧ KeyT X2 ∧ KeyT X3)) (HV : Hid (kx1 = kindV X1 ∧ xs1 = text0 X1 ∧ xt1 = text1 X1 ∧ xl1 = text2 X1 ∧ kx2 = kindV X2 ∧ xs2 = text0 X2 ∧ xt2 = text1 X2 ∧ xl2 = text2 X2 ∧ kx3 = kindV X3 ∧ xs3 = text0 X3 ∧ xt3 = text1 X3 ∧ xl3 = text2 X3)) {xv : Value} (HXV : Hid (xv = tmV X3)) (HKD : Hid (0 ≤ kd ∧ kd ≤ 255)) (hkm : kd % 7 = 1)
    {sl0 sl1 sl2 sl3 sl4 sl6 sl8 sl12 sl13 sl14 sl15 sl16 sl17 sl18 sl19 sl20 sl21 sl22 sl23 sl24 sl25 sl26 sl27 sl28 sl29 sl30 sl31 sl32 sl33 sl34 sl35 sl36 sl37 sl38 sl39 sl40 sl41 sl42 sl43 sl44 sl45 sl46 sl47 sl48 sl49 sl50 sl51 sl52 sl53 sl54 sl55 sl56 sl57 sl58 sl59 sl60 sl61 sl62 sl63 sl64 sl65 sl66 sl67 sl68 sl69 sl70 sl71 sl72 sl73 sl74 sl75 sl76 sl77 sl78 sl79 sl80 sl81 sl82 sl83 sl84 sl85 sl86 sl87 sl88 sl89 sl90 sl91 sl92 sl93 sl94 sl95 sl96 sl97 sl98 sl99 sl100 sl101 sl102 sl103 sl104 sl105 sl106 sl107 sl108 sl109 sl111 sl112 sl113 sl114 sl115 sl116 sl117 sl118 sl119 sl120 sl121 sl122 sl123 sl124 sl125 sl126 sl127 sl128 sl129 sl130 sl131 sl132 sl133 sl134 sl135 sl136 sl137 sl138 sl139 sl140 sl141 sl142 sl143 sl144 sl145 sl146 sl147 sl148 sl149 sl150 sl151 sl152 sl153 sl154 sl155 sl156 sl157 sl158 sl159 sl160 sl161 sl162 sl163 sl164 sl165 sl166 sl167 sl168 sl169 sl170 sl171 sl172 sl173 sl174 sl175 sl176 sl177 sl178 sl179 sl180 sl181 sl182 sl183 sl184 sl185 sl186 sl187 sl188 sl189 sl190 sl191 sl192 sl193 sl194 sl195 sl196 sl197 sl198 sl199 sl200 sl201 sl202 sl203 sl204 sl205 sl206 sl207 sl208 sl209 sl210 sl211 sl212 sl213 sl214 sl215 sl216 sl217 sl218 sl219 sl220 sl221 sl222 sl223 sl224 sl225 sl226 sl227 sl228 sl229 sl230 sl231 sl232 sl233 sl234 sl235 sl236 sl237 sl238 sl239 sl240 sl241 sl242 sl243 sl244 sl245 sl246 sl247 sl248 sl249 sl250 sl251 sl252 sl253 sl254 sl255 sl256 sl257 sl258 sl259 sl260 sl261 sl262 sl263 sl264 sl265 sl266 sl267 sl268 sl269 sl270 sl271 sl272 sl273 sl274 sl275 sl276 sl277 sl278 sl279 sl280 sl281 sl282 sl283 sl284 sl285 sl286 sl287 sl288 sl289 sl290 sl291 sl292 sl293 sl294 sl295 sl296 sl297 sl298 sl299 sl300 sl301 sl302 sl303 sl304 sl305 sl306 sl307 : Value} (J K' : Act → World → Prop) (Q' : Exit → Act → World → Prop) (hP : ∀ c (a a' : Act) w, a.defers = a'.defers → Q' (.panic c) a w → Q' (.panic c) a' w) (h1 : ∀ a' w', (∃ ul4 ul12 ul13 ul14 ul15 ul16 ul17 ul18 ul19 ul20 ul21 ul22 ul23 ul24 ul25 ul26 ul27 ul28 ul29 ul30 ul31 ul32 ul33 ul111 ul112 ul113 ul114 ul115 ul116 ul117 ul118 ul119 ul120 ul121 ul122 ul123 ul124 ul125 ul126 ul127 ul128 ul129 ul130 ul131 ul132 ul133 ul134 ul135 ul136 ul137 ul138 ul139 ul140 ul141 ul142 ul143 ul144 ul145 ul146 ul147 ul148 ul149 ul150 ul151 ul152 ul153 ul154 ul155 ul156 ul157 ul158 ul159 ul160 ul161 ul162 ul163 ul164 ul165 ul166 ul167 ul168 ul169 ul170 ul171 ul172 ul173 ul174 ul175 ul176 ul177 ul178 ul179 ul180 ul181 ul182 ul183 ul184 ul185 ul186 ul187 ul188 ul189 ul190 ul191 ul192 ul193 ul194 ul195 ul196 ul197 ul198 ul199 ul200 ul201 ul202 ul203 ul204 ul205 ul206 ul207 ul208 ul209 ul210 ul211 ul212 ul213 ul214 ul215 ul216 ul217 ul218 ul219 ul220 ul221 ul222 ul223 ul224 ul225 ul226 ul227 ul228 ul229 ul230 ul231 ul232 ul233 ul234 ul235 ul236 ul237 ul238 ul239 ul240 ul241 ul242 ul243 ul244 ul245 ul246 ul247 ul248 ul249 ul250 ul251 ul252 ul253 ul254 ul255 ul256 ul257 ul258 ul259 ul260 ul261 ul262 ul263 ul264 ul265 ul266 ul267 ul268 ul269 ul270 ul271 ul272 ul273 ul274 ul275 ul276 ul277 ul278 ul279 ul280 ul281 ul282 ul283 ul284 ul285 ul286 ul287 ul288 ul289 ul290 ul291 ul292 ul293 ul294 ul295 ul296 ul297 ul298 ul299 ul300 ul301 ul302 : Value, Hid (∃ ts' V', BothV G w p m w2.heap.size room V' ts' w') ∧ a' = ⟨(sl0 :: sl1 :: sl2 :: sl3 :: ul4 :: .pointer (some ⟨p, 0, none⟩) :: sl6 :: .pointer (some ⟨w2.heap.size, 0, none⟩) :: sl8 :: .pointer (some ⟨wr.heap.size, 0, none⟩) :: .pointer (some ⟨q, 0, none⟩) :: xv :: ul12 :: ul13 :: ul14 :: ul15 :: ul16 :: ul17 :: ul18 :: ul19 :: ul20 :: ul21 :: ul22 :: ul23 :: ul24 :: ul25 :: ul26 :: ul27 :: ul28 :: ul29 :: ul30 :: ul31 :: ul32 :: ul33 :: sl34 :: sl35 :: sl36 :: sl37 :: sl38 :: sl39 :: sl40 :: sl41 :: sl42 :: sl43 :: sl44 :: sl45 :: sl46 :: sl47 :: sl48 :: sl49 :: sl50 :: sl51 :: sl52 :: sl53 :: sl54 :: sl55 :: sl56 :: sl57 :: sl58 :: sl59 :: sl60 :: sl61 :: sl62 :: sl63 :: sl64 :: sl65 :: sl66 :: sl67 :: sl68 :: sl69 :: sl70 :: sl71 :: sl72 :: sl73 :: sl74 :: sl75 :: sl76 :: sl77 :: sl78 :: sl79 :: sl80 :: sl81 :: sl82 :: sl83 :: sl84 :: sl85 :: sl86 :: sl87 :: sl88 :: sl89 :: sl90 :: sl91 :: sl92 :: sl93 :: sl94 :: sl95 :: sl96 :: sl97 :: sl98 :: sl99 :: sl100 :: sl101 :: sl102 :: sl103 :: sl104 :: sl105 :: sl106 :: sl107 :: sl108 :: sl109 :: .int .u8 (kd % 7) :: ul111 :: ul112 :: ul113 :: ul114 :: ul115 :: ul116 :: ul117 :: ul118 :: ul119 :: ul120 :: ul121 :: ul122 :: ul123 :: ul124 :: ul125 :: ul126 :: ul127 :: ul128 :: ul129 :: ul130 :: ul131 :: ul132 :: ul133 :: ul134 :: ul135 :: ul136 :: ul137 :: ul138 :: ul139 :: ul140 :: ul141 :: ul142 :: ul143 :: ul144 :: ul145 :: ul146 :: ul147 :: ul148 :: ul149 :: ul150 :: ul151 :: ul152 :: ul153 :: ul154 :: ul155 :: ul156 :: ul157 :: ul158 :: ul159 :: ul160 :: ul161 :: ul162 :: ul163 :: ul164 :: ul165 :: ul166 :: ul167 :: ul168 :: ul169 :: ul170 :: ul171 :: ul172 :: ul173 :: ul174 :: ul175 :: ul176 :: ul177 :: ul178 :: ul179 :: ul180 :: ul181 :: ul182 :: ul183 :: ul184 :: ul185 :: ul186 :: ul187 :: ul188 :: ul189 :: ul190 :: ul191 :: ul192 :: ul193 :: ul194 :: ul195 :: ul196 :: ul197 :: ul198 :: ul199 :: ul200 :: ul201 :: ul202 :: ul203 :: ul204 :: ul205 :: ul206 :: ul207 :: ul208 :: ul209 :: ul210 :: ul211 :: ul212 :: ul213 :: ul214 :: ul215 :: ul216 :: ul217 :: ul218 :: ul219 :: ul220 :: ul221 :: ul222 :: ul223 :: ul224 :: ul225 :: ul226 :: ul227 :: ul228 :: ul229 :: ul230 :: ul231 :: ul232 :: ul233 :: ul234 :: ul235 :: ul236 :: ul237 :: ul238 :: ul239 :: ul240 :: ul241 :: ul242 :: ul243 :: ul244 :: ul245 :: ul246 :: ul247 :: ul248 :: ul249 :: ul250 :: ul251 :: ul252 :: ul253 :: ul254 :: ul255 :: ul256 :: ul257 :: ul258 :: ul259 :: ul260 :: ul261 :: ul262 :: ul263 :: ul264 :: ul265 :: ul266 :: ul267 :: ul268 :: ul269 :: ul270 :: ul271 :: ul272 :: ul273 :: ul274 :: ul275 :: ul276 :: ul277 :: ul278 :: ul279 :: ul280 :: ul281 :: ul282 :: ul283 :: ul284 :: ul285 :: ul286 :: ul287 :: ul288 :: ul289 :: ul290 :: ul291 :: ul292 :: ul293 :: ul294 :: ul295 :: ul296 :: ul297 :: ul298 :: ul299 :: ul300 :: ul301 :: ul302 :: sl303 :: sl304 :: sl305 :: sl306 :: sl307 :: []).toArray, []⟩) → J a' w') (h2 : ∀ a' w', Met J a' w' → K' a' w') :
    Code.wp Try.prog ((Try.f6.body.bind (findC (isBlk 2))).getD .skip) (Exit.then K' Q') ⟨(sl0 :: sl1 :: sl2 :: sl3 :: sl4 :: .pointer (some ⟨p, 0, none⟩) :: sl6 :: .pointer (some ⟨w2.heap.size, 0, none⟩) :: sl8 :: .pointer (some ⟨wr.heap.size, 0, none⟩) :: .pointer (some ⟨q, 0, none⟩) :: xv :: sl12 :: sl13 :: sl14 :: sl15 :: sl16 :: sl17 :: sl18 :: sl19 :: sl20 :: sl21 :: sl22 :: sl23 :: sl24 :: sl25 :: sl26 :: sl27 :: sl28 :: sl29 :: sl30 :: sl31 :: sl32 :: sl33 :: sl34 :: sl35 :: sl36 :: sl37 :: sl38 :: sl39 :: sl40 :: sl41 :: sl42 :: sl43 :: sl44 :: sl45 :: sl46 :: sl47 :: sl48 :: sl49 :: sl50 :: sl51 :: sl52 :: sl53 :: sl54 :: sl55 :: sl56 :: sl57 :: sl58 :: sl59 :: sl60 :: sl61 :: sl62 :: sl63 :: sl64 :: sl65 :: sl66 :: sl67 :: sl68 :: sl69 :: sl70 :: sl71 :: sl72 :: sl73 :: sl74 :: sl75 :: sl76 :: sl77 :: sl78 :: sl79 :: sl80 :: sl81 :: sl82 :: sl83 :: sl84 :: sl85 :: sl86 :: sl87 :: sl88 :: sl89 :: sl90 :: sl91 :: sl92 :: sl93 :: sl94 :: sl95 :: sl96 :: sl97 :: sl98 :: sl99 :: sl100 :: sl101 :: sl102 :: sl103 :: sl104 :: sl105 :: sl106 :: sl107 :: sl108 :: sl109 :: .int .u8 (kd % 7) :: sl111 :: sl112 :: sl113 :: sl114 :: sl115 :: sl116 :: sl117 :: sl118 :: sl119 :: sl120 :: sl121 :: sl122 :: sl123 :: sl124 :: sl125 :: sl126 :: sl127 :: sl128 :: sl129 :: sl130 :: sl131 :: sl132 :: sl133 :: sl134 :: sl135 :: sl136 :: sl137 :: sl138 :: sl139 :: sl140 :: sl141 :: sl142 :: sl143 :: sl144 :: sl145 :: sl146 :: sl147 :: sl148 :: sl149 :: sl150 :: sl151 :: sl152 :: sl153 :: sl154 :: sl155 :: sl156 :: sl157 :: sl158 :: sl159 :: sl160 :: sl161 :: sl162 :: sl163 :: sl164 :: sl165 :: sl166 :: sl167 :: sl168 :: sl169 :: sl170 :: sl171 :: sl172 :: sl173 :: sl174 :: sl175 :: sl176 :: sl177 :: sl178 :: sl179 :: sl180 :: sl181 :: sl182 :: sl183 :: sl184 :: sl185 :: sl186 :: sl187 :: sl188 :: sl189 :: sl190 :: sl191 :: sl192 :: sl193 :: sl194 :: sl195 :: sl196 :: sl197 :: sl198 :: sl199 :: sl200 :: sl201 :: sl202 :: sl203 :: sl204 :: sl205 :: sl206 :: sl207 :: sl208 :: sl209 :: sl210 :: sl211 :: sl212 :: sl213 :: sl214 :: sl215 :: sl216 :: sl217 :: sl218 :: sl219 :: sl220 :: sl221 :: sl222 :: sl223 :: sl224 :: sl225 :: sl226 :: sl227 :: sl228 :: sl229 :: sl230 :: sl231 :: sl232 :: sl233 :: sl234 :: sl235 :: sl236 :: sl237 :: sl238 :: sl239 :: sl240 :: sl241 :: sl242 :: sl243 :: sl244 :: sl245 :: sl246 :: sl247 :: sl248 :: sl249 :: sl250 :: sl251 :: sl252 :: sl253 :: sl254 :: sl255 :: sl256 :: sl257 :: sl258 :: sl259 :: sl260 :: sl261 :: sl262 :: sl263 :: sl264 :: sl265 :: sl266 :: sl267 :: sl268 :: sl269 :: sl270 :: sl271 :: sl272 :: sl273 :: sl274 :: sl275 :: sl276 :: sl277 :: sl278 :: sl279 :: sl280 :: sl281 :: sl282 :: sl283 :: sl284 :: sl285 :: sl286 :: sl287 :: sl288 :: sl289 :: sl290 :: sl291 :: sl292 :: sl293 :: sl294 :: sl295 :: sl296 :: sl297 :: sl298 :: sl299 :: sl300 :: sl301 :: sl302 :: sl303 :: sl304 :: sl305 :: sl306 :: sl307 :: []).toArray, []⟩ w6 := by
  conv => arg 2; whnf
  have hk0 := HKD.out.1
  have hk1 := HKD.out.2
  have hq0 : (kd % 7 == 0) = false := by simp; omega
  have hq1 : (kd % 7 == 1) = true := by simp; omega
  clear hkm
  obtain ⟨c0, c1, c2, c3, c4, c5, c6, c7, c8, c9, c10, c11, c12, c13, c14, c15, c16⟩ := cells17 HX6.out
  obtain ⟨n0, n1, n2, n3, n4, n5, n6, n7, n8, n9, n10, n11⟩ := cells12 HT6.out
  have hl65 : ts.length ≤ 65536 := by obtain ⟨_, _, _, _, _, _, _, _, _, _, h8⟩ := HB6.out.1; exact h8
  obtain ⟨ts', N, C, hput⟩ : ∃ ts' N C, putT G room ts X3 = (ts', N, C) := ⟨_, _, _, rfl⟩
  have HRP := Lib.hid (fun w1 (h1 : DocRow w1 0 (.slice av ts.length cv) ts) => rput_any HG.out room _ ts X3 w1 h1 HSK.out.1.2.2 HSK.out.2.2.2 HB6.out.2.2.2.1.key (by omega))
  have HPU := Lib.hid (fun w1 (hm : MaxV w1) (hd : DcAt w.heap.size p m ts room w1) (hs : w.heap.size ≤ w1.heap.size) => put_any HG.out X3 HSK.out.1.2.2 hm hd HB6.out.2.2.2.2.1 HRO.out.2 hs)
  unfold RPut at HRP
  rw [hput] at HRP HPU
  dsimp only at HRP HPU
  unfold refT at HRP
  rw [← HV.out.2.2.2.2.2.2.2.2.1, ← HV.out.2.2.2.2.2.2.2.2.2.1, ← HV.out.2.2.2.2.2.2.2.2.2.2.1, ← HV.out.2.2.2.2.2.2.2.2.2.2.2] at HRP
  rw [← HXV.out] at HPU
  have HF' : Hid (Fine G ts') := Lib.hid (by have := fine_put (room := room) HB6.out.2.2.2.1 HSK.out.2.2.2 HSK.out.1.2.2; rw [hput] at this; exact this)
  clear hput hl65
  obtain ⟨x0, x1, x2, x3⟩ := cells2 HB6.out.2.1
  clear c0 c1 c2 c3 c4 c5 c6 c7 c8 c9 c10 c11 c12 c13 c14 c15 c16
  obtain ⟨c0, c1, c2, c3, c4, c5, c6, c7, c8, c9, c10, c11, c12, c13, c14, c15, c16⟩ := cells17 HX6.out
  go_wp2_with fail
  refine (HRP.out _ HB6.out.2.2.1).mono ?_
  rintro e w7 ⟨V', rfl, hr7, hb7⟩
  obtain ⟨av', cv', rfl⟩ := hr7.form
  have HB7 := Lib.hid ((HB6.out.below hb7).alloc (.cells #[.int .i64 room, .slice av' ts'.length cv'] 29))
  have HR7 := Lib.hid (hr7.below ((Below.refl _ _).alloc (Nat.le_refl _) (.cells #[.int .i64 room, .slice av' ts'.length cv'] 29)))
  have HN7 := Lib.hid (box_new w7 #[.int .i64 room, .slice av' ts'.length cv'] 29)
  clear hb7 hr7 x0 x1 x2 x3 c0 c1 c2 c3 c4 c5 c6 c7 c8 c9 c10 c11 c12 c13 c14 c15 c16 n0 n1 n2 n3 n4 n5 n6 n7 n8 n9 n10 n11
  go_wp2_with fail
  refine (HPU.out _ (HM.out.below HB7.out.bel) HB7.out.1 HB7.out.bel.size).mono ?_
  rintro e w8 ⟨rfl, hd8, hk8, hdist8⟩
  have HX8 := Lib.hid (HB7.out.next HR7.out HF'.out hd8 hk8 hdist8)
  obtain ⟨z0, z1, z2, z3⟩ := cells2 (HB7.out.1.box hk8 HN7.out (by decide) (by decide))
  obtain ⟨x0, x1, x2, x3⟩ := cells2 (HB7.out.1.box hk8 HB7.out.2.1 (by decide) (by decide))
  clear hd8 hk8 hdist8
  go_wp2_with fail
  go_meet
  case rel => exact Lib.hid ⟨_, _, HX8.out⟩
end Go.Proofs.Ytghimladdioajaa
namespace Go.Proofs.Ytghimladdioajaa
open Go Go.RowKit
set_option linter.unusedVariables false
set_option linter.unusedSimpArgs false
set_option maxRecDepth 100000
set_option maxHeartbeats 12800000 in
theorem plays_arm2 {G : Tm → Bool} (HG : Hid (GoodFn G)) {w w2 wr w6 : World} (HM : Hid (MaxV w)) {p m q : Nat} {room : Int} (HRO : Hid (1 ≤ room ∧ room ≤ 65536)) {av : Option Addr} {cv : Nat} {ts : List Tm} (HB6 : Hid (BothV G w p m w2.heap.size room (.slice av ts.length cv) ts w6)) {kd nn k1 : Int} {s1 t1 l1 : ByteArray} {k2 : Int} {s2 t2 l2 : ByteArray} {k3 : Int} {s3 t3 l3 : ByteArray} {ka kb kc kx1 : Int} {xs1 xt1 xl1 : ByteArray} {kx2 : Int} {xs2 xt2 xl2 : ByteArray} {kx3 : Int} {xs3 xt3 xl3 : ByteArray} (HX6 : Hid (w6.heap[wr.heap.size]? = some (.cells #[.int .u8 kd, .int .i64 nn, .int .i64 k1, .string s1, .string t1, .string l1, .int .i64 k2, .string s2, .string t2, .string l2, .int .i64 k3, .string s3, .string t3, .string l3, .int .i64 ka, .int .i64 kb, .int .i64 kc] 67 (0, 0)))) (HT6 : Hid (w6.heap[q]? = some (.cells #[.int .i64 kx1, .string xs1, .string xt1, .string xl1, .int .i64 kx2, .string xs2, .string xt2, .string xl2, .int .i64 kx3, .string xs3, .string xt3, .string xl3] 51 (0, 0)))) {X1 X2 X3 : Tm} (HSK : Hid ((Small X1 ∧ Small X2 ∧ Small X3) ∧ KeyT X1 ∧ KeyT X2 ∧ KeyT X3)) (HV : Hid (kx1 = kindV X1 ∧ xs1 = text0 X1 ∧ xt1 = text1 X1 ∧ xl1 = text2 X1 ∧ kx2 = kindV X2 ∧ xs2 = text0 X2 ∧ xt2 = text1 X2 ∧ xl2 = text2 X2 ∧ kx3 = kindV X3 ∧ xs3 = text0 X3 ∧ xt3 = text1 X3 ∧ xl3 = text2 X3)) {xv : Value} (HXV : Hid (xv = tmV X3)) (HKD : Hid (0 ≤ kd ∧ kd ≤ 255)) (hkm : kd % 7 = 2)
    {sl0 sl1 sl2 sl3 sl4 sl6 sl8 sl12 sl13 sl14 sl15 sl16 sl17 sl18 sl19 sl20 sl21 sl22 sl23 sl24 sl25 sl26 sl27 sl28 sl29 sl30 sl31 sl32 sl33 sl34 sl35 sl36 sl37 sl38 sl39 sl40 sl41 sl42 sl43 sl44 sl45 sl46 sl47 sl48 sl49 sl50 sl51 sl52 sl53 sl54 sl55 sl56 sl57 sl58 sl59 sl60 sl61 sl62 sl63 sl64 sl65 sl66 sl67 sl68 sl69 sl70 sl71 sl72 sl73 sl74 sl75 sl76 sl77 sl78 sl79 sl80 sl81 sl82 sl83 sl84 sl85 sl86 sl87 sl88 sl89 sl90 sl91 sl92 sl93 sl94 sl95 sl96 sl97 sl98 sl99 sl100 sl101 sl102 sl103 sl104 sl105 sl106 sl107 sl108 sl109 sl111 sl112 sl113 sl114 sl115 sl116 sl117 sl118 sl119 sl120 sl121 sl122 sl123 sl124 sl125 sl126 sl127 sl128 sl129 sl130 sl131 sl132 sl133 sl134 sl135 sl136 sl137 sl138 sl139 sl140 sl141 sl142 sl143 sl144 sl145 sl146 sl147 sl148 sl149 sl150 sl151 sl152 sl153 sl154 sl155 sl156 sl157 sl158 sl159 sl160 sl161 sl162 sl163 sl164 sl165 sl166 sl167 sl168 sl169 sl170 sl171 sl172 sl173 sl174 sl175 sl176 sl177 sl178 sl179 sl180 sl181 sl182 sl183 sl184 sl185 sl186 sl187 sl188 sl189 sl190 sl191 sl192 sl193 sl194 sl195 sl196 sl197 sl198 sl199 sl200 sl201 sl202 sl203 sl204 sl205 sl206 sl207 sl208 sl209 sl210 sl211 sl212 sl213 sl214 sl215 sl216 sl217 sl218 sl219 sl220 sl221 sl222 sl223 sl224 sl225 sl226 sl227 sl228 sl229 sl230 sl231 sl232 sl233 sl234 sl235 sl236 sl237 sl238 sl239 sl240 sl241 sl242 sl243 sl244 sl245 sl246 sl247 sl248 sl249 sl250 sl251 sl252 sl253 sl254 sl255 sl256 sl257 sl258 sl259 sl260 sl261 sl262 sl263 sl264 sl265 sl266 sl267 sl268 sl269 sl270 sl271 sl272 sl273 sl274 sl275 sl276 sl277 sl278 sl279 sl280 sl281 sl282 sl283 sl284 sl285 sl286 sl287 sl288 sl289 sl290 sl291 sl292 sl293 sl294 sl295 sl296 sl297 sl298 sl299 sl300 sl301 sl302 sl303 sl304 sl305 sl306 sl307 : Value} (J K' : Act → World → Prop) (Q' : Exit → Act → World → Prop) (hP : ∀ c (a a' : Act) w, a.defers = a'.defers → Q' (.panic c) a w → Q' (.panic c) a' w) (h1 : ∀ a' w', (∃ ul4 ul12 ul13 ul14 ul15 ul16 ul17 ul18 ul19 ul20 ul21 ul22 ul23 ul24 ul25 ul26 ul27 ul28 ul29 ul30 ul31 ul32 ul33 ul111 ul112 ul113 ul114 ul115 ul116 ul117 ul118 ul119 ul120 ul121 ul122 ul123 ul124 ul125 ul126 ul127 ul128 ul129 ul130 ul131 ul132 ul133 ul134 ul135 ul136 ul137 ul138 ul139 ul140 ul141 ul142 ul143 ul144 ul145 ul146 ul147 ul148 ul149 ul150 ul151 ul152 ul153 ul154 ul155 ul156 ul157 ul158 ul159 ul160 ul161 ul162 ul163 ul164 ul165 ul166 ul167 ul168 ul169 ul170 ul171 ul172 ul173 ul174 ul175 ul176 ul177 ul178 ul179 ul180 ul181 ul182 ul183 ul184 ul185 ul186 ul187 ul188 ul189 ul190 ul191 ul192 ul193 ul194 ul195 ul196 ul197 ul198 ul199 ul200 ul201 ul202 ul203 ul204 ul205 ul206 ul207 ul208 ul209 ul210 ul211 ul212 ul213 ul214 ul215 ul216 ul217 ul218 ul219 ul220 ul221 ul222 ul223 ul224 ul225 ul226 ul227 ul228 ul229 ul230 ul231 ul232 ul233 ul234 ul235 ul236 ul237 ul238 ul239 ul240 ul241 ul242 ul243 ul244 ul245 ul246 ul247 ul248 ul249 ul250 ul251 ul252 ul253 ul254 ul255 ul256 ul257 ul258 ul259 ul260 ul261 ul262 ul263 ul264 ul265 ul266 ul267 ul268 ul269 ul270 ul271 ul272 ul273 ul274 ul275 ul276 ul277 ul278 ul279 ul280 ul281 ul282 ul283 ul284 ul285 ul286 ul287 ul288 ul289 ul290 ul291 ul292 ul293 ul294 ul295 ul296 ul297 ul298 ul299 ul300 ul301 ul302 : Value, Hid (∃ ts' V', BothV G w p m w2.heap.size room V' ts' w') ∧ a' = ⟨(sl0 :: sl1 :: sl2 :: sl3 :: ul4 :: .pointer (some ⟨p, 0, none⟩) :: sl6 :: .pointer (some ⟨w2.heap.size, 0, none⟩) :: sl8 :: .pointer (some ⟨wr.heap.size, 0, none⟩) :: .pointer (some ⟨q, 0, none⟩) :: xv :: ul12 :: ul13 :: ul14 :: ul15 :: ul16 :: ul17 :: ul18 :: ul19 :: ul20 :: ul21 :: ul22 :: ul23 :: ul24 :: ul25 :: ul26 :: ul27 :: ul28 :: ul29 :: ul30 :: ul31 :: ul32 :: ul33 :: sl34 :: sl35 :: sl36 :: sl37 :: sl38 :: sl39 :: sl40 :: sl41 :: sl42 :: sl43 :: sl44 :: sl45 :: sl46 :: sl47 :: sl48 :: sl49 :: sl50 :: sl51 :: sl52 :: sl53 :: sl54 :: sl55 :: sl56 :: sl57 :: sl58 :: sl59 :: sl60 :: sl61 :: sl62 :: sl63 :: sl64 :: sl65 :: sl66 :: sl67 :: sl68 :: sl69 :: sl70 :: sl71 :: sl72 :: sl73 :: sl74 :: sl75 :: sl76 :: sl77 :: sl78 :: sl79 :: sl80 :: sl81 :: sl82 :: sl83 :: sl84 :: sl85 :: sl86 :: sl87 :: sl88 :: sl89 :: sl90 :: sl91 :: sl92 :: sl93 :: sl94 :: sl95 :: sl96 :: sl97 :: sl98 :: sl99 :: sl100 :: sl101 :: sl102 :: sl103 :: sl104 :: sl105 :: sl106 :: sl107 :: sl108 :: sl109 :: .int .u8 (kd % 7) :: ul111 :: ul112 :: ul113 :: ul114 :: ul115 :: ul116 :: ul117 :: ul118 :: ul119 :: ul120 :: ul121 :: ul122 :: ul123 :: ul124 :: ul125 :: ul126 :: ul127 :: ul128 :: ul129 :: ul130 :: ul131 :: ul132 :: ul133 :: ul134 :: ul135 :: ul136 :: ul137 :: ul138 :: ul139 :: ul140 :: ul141 :: ul142 :: ul143 :: ul144 :: ul145 :: ul146 :: ul147 :: ul148 :: ul149 :: ul150 :: ul151 :: ul152 :: ul153 :: ul154 :: ul155 :: ul156 :: ul157 :: ul158 :: ul159 :: ul160 :: ul161 :: ul162 :: ul163 :: ul164 :: ul165 :: ul166 :: ul167 :: ul168 :: ul169 :: ul170 :: ul171 :: ul172 :: ul173 :: ul174 :: ul175 :: ul176 :: ul177 :: ul178 :: ul179 :: ul180 :: ul181 :: ul182 :: ul183 :: ul184 :: ul185 :: ul186 :: ul187 :: ul188 :: ul189 :: ul190 :: ul191 :: ul192 :: ul193 :: ul194 :: ul195 :: ul196 :: ul197 :: ul198 :: ul199 :: ul200 :: ul201 :: ul202 :: ul203 :: ul204 :: ul205 :: ul206 :: ul207 :: ul208 :: ul209 :: ul210 :: ul211 :: ul212 :: ul213 :: ul214 :: ul215 :: ul216 :: ul217 :: ul218 :: ul219 :: ul220 :: ul221 :: ul222 :: ul223 :: ul224 :: ul225 :: ul226 :: ul227 :: ul228 :: ul229 :: ul230 :: ul231 :: ul232 :: ul233 :: ul234 :: ul235 :: ul236 :: ul237 :: ul238 :: ul239 :: ul240 :: ul241 :: ul242 :: ul243 :: ul244 :: ul245 :: ul246 :: ul247 :: ul248 :: ul249 :: ul250 :: ul251 :: ul252 :: ul253 :: ul254 :: ul255 :: ul256 :: ul257 :: ul258 :: ul259 :: ul260 :: ul261 :: ul262 :: ul263 :: ul264 :: ul265 :: ul266 :: ul267 :: ul268 :: ul269 :: ul270 :: ul271 :: ul272 :: ul273 :: ul274 :: ul275 :: ul276 :: ul277 :: ul278 :: ul279 :: ul280 :: ul281 :: ul282 :: ul283 :: ul284 :: ul285 :: ul286 :: ul287 :: ul288 :: ul289 :: ul290 :: ul291 :: ul292 :: ul293 :: ul294 :: ul295 :: ul296 :: ul297 :: ul298 :: ul299 :: ul300 :: ul301 :: ul302 :: sl303 :: sl304 :: sl305 :: sl306 :: sl307 :: []).toArray, []⟩) → J a' w') (h2 : ∀ a' w', Met J a' w' → K' a' w') :
    Code.wp Try.prog ((Try.f6.body.bind (findC (isBlk 2))).getD .skip) (Exit.then K' Q') ⟨(sl0 :: sl1 :: sl2 :: sl3 :: sl4 :: .pointer (some ⟨p, 0, none⟩) :: sl6 :: .pointer (some ⟨w2.heap.size, 0, none⟩) :: sl8 :: .pointer (some ⟨wr.heap.size, 0, none⟩) :: .pointer (some ⟨q, 0, none⟩) :: xv :: sl12 :: sl13 :: sl14 :: sl15 :: sl16 :: sl17 :: sl18 :: sl19 :: sl20 :: sl21 :: sl22 :: sl23 :: sl24 :: sl25 :: sl26 :: sl27 :: sl28 :: sl29 :: sl30 :: sl31 :: sl32 :: sl33 :: sl34 :: sl35 :: sl36 :: sl37 :: sl38 :: sl39 :: sl40 :: sl41 :: sl42 :: sl43 :: sl44 :: sl45 :: sl46 :: sl47 :: sl48 :: sl49 :: sl50 :: sl51 :: sl52 :: sl53 :: sl54 :: sl55 :: sl56 :: sl57 :: sl58 :: sl59 :: sl60 :: sl61 :: sl62 :: sl63 :: sl64 :: sl65 :: sl66 :: sl67 :: sl68 :: sl69 :: sl70 :: sl71 :: sl72 :: sl73 :: sl74 :: sl75 :: sl76 :: sl77 :: sl78 :: sl79 :: sl80 :: sl81 :: sl82 :: sl83 :: sl84 :: sl85 :: sl86 :: sl87 :: sl88 :: sl89 :: sl90 :: sl91 :: sl92 :: sl93 :: sl94 :: sl95 :: sl96 :: sl97 :: sl98 :: sl99 :: sl100 :: sl101 :: sl102 :: sl103 :: sl104 :: sl105 :: sl106 :: sl107 :: sl108 :: sl109 :: .int .u8 (kd % 7) :: sl111 :: sl112 :: sl113 :: sl114 :: sl115 :: sl116 :: sl117 :: sl118 :: sl119 :: sl120 :: sl121 :: sl122 :: sl123 :: sl124 :: sl125 :: sl126 :: sl127 :: sl128 :: sl129 :: sl130 :: sl131 :: sl132 :: sl133 :: sl134 :: sl135 :: sl136 :: sl137 :: sl138 :: sl139 :: sl140 :: sl141 :: sl142 :: sl143 :: sl144 :: sl145 :: sl146 :: sl147 :: sl148 :: sl149 :: sl150 :: sl151 :: sl152 :: sl153 :: sl154 :: sl155 :: sl156 :: sl157 :: sl158 :: sl159 :: sl160 :: sl161 :: sl162 :: sl163 :: sl164 :: sl165 :: sl166 :: sl167 :: sl168 :: sl169 :: sl170 :: sl171 :: sl172 :: sl173 :: sl174 :: sl175 :: sl176 :: sl177 :: sl178 :: sl179 :: sl180 :: sl181 :: sl182 :: sl183 :: sl184 :: sl185 :: sl186 :: sl187 :: sl188 :: sl189 :: sl190 :: sl191 :: sl192 :: sl193 :: sl194 :: sl195 :: sl196 :: sl197 :: sl198 :: sl199 :: sl200 :: sl201 :: sl202 :: sl203 :: sl204 :: sl205 :: sl206 :: sl207 :: sl208 :: sl209 :: sl210 :: sl211 :: sl212 :: sl213 :: sl214 :: sl215 :: sl216 :: sl217 :: sl218 :: sl219 :: sl220 :: sl221 :: sl222 :: sl223 :: sl224 :: sl225 :: sl226 :: sl227 :: sl228 :: sl229 :: sl230 :: sl231 :: sl232 :: sl233 :: sl234 :: sl235 :: sl236 :: sl237 :: sl238 :: sl239 :: sl240 :: sl241 :: sl242 :: sl243 :: sl244 :: sl245 :: sl246 :: sl247 :: sl248 :: sl249 :: sl250 :: sl251 :: sl252 :: sl253 :: sl254 :: sl255 :: sl256 :: sl257 :: sl258 :: sl259 :: sl260 :: sl261 :: sl262 :: sl263 :: sl264 :: sl265 :: sl266 :: sl267 :: sl268 :: sl269 :: sl270 :: sl271 :: sl272 :: sl273 :: sl274 :: sl275 :: sl276 :: sl277 :: sl278 :: sl279 :: sl280 :: sl281 :: sl282 :: sl283 :: sl284 :: sl285 :: sl286 :: sl287 :: sl288 :: sl289 :: sl290 :: sl291 :: sl292 :: sl293 :: sl294 :: sl295 :: sl296 :: sl297 :: sl298 :: sl299 :: sl300 :: sl301 :: sl302 :: sl303 :: sl304 :: sl305 :: sl306 :: sl307 :: []).toArray, []⟩ w6 := by
  conv => arg 2; whnf
  have hk0 := HKD.out.1
  have hk1 := HKD.out.2
  have hq0 : (kd % 7 == 0) = false := by simp; omega
  have hq1 : (kd % 7 == 1) = false := by simp; omega
  have hq2 : (kd % 7 == 2) = true := by simp; omega
  clear hkm
  obtain ⟨c0, c1, c2, c3, c4, c5, c6, c7, c8, c9, c10, c11, c12, c13, c14, c15, c16⟩ := cells17 HX6.out
  obtain ⟨n0, n1, n2, n3, n4, n5, n6, n7, n8, n9, n10, n11⟩ := cells12 HT6.out
  have hl65 : ts.length ≤ 65536 := by obtain ⟨_, _, _, _, _, _, _, _, _, _, h8⟩ := HB6.out.1; exact h8
  have HFI := Lib.hid (find_any HG.out X3 HSK.out.2.2.2 HSK.out.1.2.2 (HM.out.below HB6.out.bel) HB6.out.1)
  have HRF := Lib.hid (fun w1 (h1 : DocRow w1 0 (.slice av ts.length cv) ts) => rfind_any HG.out room 0 _ ts X3 w1 h1 HSK.out.1.2.2 HSK.out.2.2.2 HB6.out.2.2.2.1.key (by omega))
  have hcs := rfind_cases G X3 ts
  rw [← HXV.out] at HFI
  unfold refT at HRF
  rw [← HV.out.2.2.2.2.2.2.2.2.1, ← HV.out.2.2.2.2.2.2.2.2.2.1, ← HV.out.2.2.2.2.2.2.2.2.2.2.1, ← HV.out.2.2.2.2.2.2.2.2.2.2.2] at HRF
  clear hl65
  obtain ⟨fp, hfp⟩ : ∃ v, v = findP G X3 ts := ⟨_, rfl⟩
  obtain ⟨rn, hrn⟩ : ∃ v, v = rfindN G X3 ts := ⟨_, rfl⟩
  rw [← hfp] at HFI hcs
  rw [← hrn] at HRF hcs
  clear hfp hrn
  obtain ⟨f1, f2⟩ := fp
  dsimp only at HFI
  rcases hcs with ⟨jj, h1, h2⟩ | ⟨h1, h2⟩
  · cases h2
    subst h1
    have m1 : max ((jj : Nat) : Int) 0 = (jj : Int) := by omega
    have m2 : (0 : Int) ≤ (jj : Int) := by omega
    go_wp2_with fail
    refine HFI.out.mono ?_
    rintro e w7 ⟨rfl, hb7⟩
    have HB7 := Lib.hid (HB6.out.below hb7)
    have HT7 := Lib.hid (box_below HT6.out hb7)
    clear hb7 c0 c1 c2 c3 c4 c5 c6 c7 c8 c9 c10 c11 c12 c13 c14 c15 c16 n0 n1 n2 n3 n4 n5 n6 n7 n8 n9 n10 n11
    obtain ⟨x0, x1, x2, x3⟩ := cells2 HB7.out.2.1
    obtain ⟨n0, n1, n2, n3, n4, n5, n6, n7, n8, n9, n10, n11⟩ := cells12 HT7.out
    go_wp2_with fail
    refine (HRF.out _ HB7.out.2.2.1).mono ?_
    rintro e w8 ⟨rfl, hb8⟩
    have HB8 := Lib.hid (HB7.out.below hb8)
    clear hb8 x0 x1 x2 x3 n0 n1 n2 n3 n4 n5 n6 n7 n8 n9 n10 n11
    go_wp2_with fail
    go_meet
    case rel => exact Lib.hid ⟨_, _, HB8.out⟩
  · cases h2
    subst h1
    have m1 : max (-1 : Int) 0 = 0 := by omega
    go_wp2_with fail
    refine HFI.out.mono ?_
    rintro e w7 ⟨rfl, hb7⟩
    have HB7 := Lib.hid (HB6.out.below hb7)
    have HT7 := Lib.hid (box_below HT6.out hb7)
    clear hb7 c0 c1 c2 c3 c4 c5 c6 c7 c8 c9 c10 c11 c12 c13 c14 c15 c16 n0 n1 n2 n3 n4 n5 n6 n7 n8 n9 n10 n11
    obtain ⟨x0, x1, x2, x3⟩ := cells2 HB7.out.2.1
    obtain ⟨n0, n1, n2, n3, n4, n5, n6, n7, n8, n9, n10, n11⟩ := cells12 HT7.out
    go_wp2_with fail
    refine (HRF.out _ HB7.out.2.2.1).mono ?_
    rintro e w8 ⟨rfl, hb8⟩
    have HB8 := Lib.hid (HB7.out.below hb8)
    clear hb8 x0 x1 x2 x3 n0 n1 n2 n3 n4 n5 n6 n7 n8 n9 n10 n11
    go_wp2_with fail
    go_meet
    case rel => exact Lib.hid ⟨_, _, HB8.out⟩
end Go.Proofs.Ytghimladdioajaa
