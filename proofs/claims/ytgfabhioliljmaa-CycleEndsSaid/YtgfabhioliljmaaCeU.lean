/- CycleEnds: the first loop. -/
import Derived.Test.YtgfabhioliljmaaCeJ
import Derived.Deep.AppendLies
namespace Go.Proofs.Ytgfabhioliljmaa
open Go.RowKit
set_option linter.unusedVariables false
set_option linter.unusedSimpArgs false

abbrev NoC : Nat → Prop := fun _ => False
set_option maxHeartbeats 16000000 in
set_option maxRecDepth 1000000 in
theorem k1 {w0 wr : World} {B j : Nat} {n : Int} {ls : List Lf} {A : Option Addr} {cap : Nat} {vl vs vt vn : Value} {c0 c1 c3 c4 c5 c6 c7 c8 c9 c10 c11 c14 c15 c16 c17 c18 c19 c20 c21 c22 c23 c24 c25 c26 c27 c28 c29 c30 c31 c32 c33 c34 c35 c36 c37 c38 c39 c40 c97 c98 c99 c100 c101 c102 c103 c104 c105 c106 c107 c108 c109 c110 c111 c112 c113 c114 c115 c116 c117 c118 c119 c120 c121 c122 c123 c124 c125 c126 c127 c128 c129 c130 c131 c132 c133 c134 c135 c136 c137 c138 c139 c140 c141 c142 c143 c144 c145 c146 c147 c148 c149 c150 c151 c152 c153 c154 c155 c156 c157 c158 c159 c160 c161 c162 c163 c164 c165 c166 c167 c168 c169 c170 c171 c172 c173 c174 c175 c176 c177 c178 c179 c180 c181 c182 c183 c184 c185 c186 c187 c188 c189 c190 c191 c192 c193 c194 c195 c196 c197 c198 c199 c200 c201 c202 c203 c204 c205 c206 c207 c208 c209 c210 c211 c212 c213 c214 c215 c216 c217 c218 c219 c220 c221 c222 c223 c224 c225 c226 c227 c228 c229 c230 c231 c232 c233 c234 c235 c236 c237 c238 c239 c240 c241 c242 c243 c244 c245 c246 c247 c248 c249 c250 c251 c252 c253 c254 c255 c256 c257 c258 c259 c260 c261 c262 c263 c264 c265 c266 c267 c268 c269 c270 c271 c272 c273 c274 c275 c276 c277 c278 c279 c280 c281 c282 c283 c284 c285 c286 c287 c288 c289 c290 c291 c292 c293 c294 c295 c296 c297 c298 c299 c300 c301 c302 c303 c304 c305 c306 c307 c308 c309 c310 c311 c312 c313 c314 c315 c316 c317 c318 c319 c320 c321 c322 c323 c324 c325 c326 c327 c328 c329 c330 c331 c332 c333 c334 c335 c336 c337 c338 c339 c340 c341 c342 c343 c344 c345 c346 c347 c348 c349 c350 c351 c352 c353 c354 c355 c356 c357 c358 : Value} {u41 u42 u43 u44 u45 u46 u47 u48 u49 u50 u51 u52 u53 u54 u55 u56 u57 u58 u59 u60 u61 u62 u63 u64 u65 u66 u67 u68 u69 u70 u71 u72 u73 u74 u75 u76 u77 u78 u79 u80 u81 u82 u83 u84 u85 u86 u87 u88 u89 u90 u91 u92 u93 u94 u95 u96 : Value} {Q : Exit → Act → World → Prop}
    (hL : ∀ j (h : j < ls.length), ∃ g o, A = some ⟨g, o, none⟩ ∧ g < w0.heap.size ∧ w0.cell? ⟨g, o + j * 4, none⟩ = some (.bool ls[j].still) ∧ w0.cell? ⟨g, o + j * 4 + 1, none⟩ = some (.int .i64 ls[j].late) ∧ w0.cell? ⟨g, o + j * 4 + 2, none⟩ = some (.bool ls[j].born) ∧ w0.cell? ⟨g, o + j * 4 + 3, none⟩ = some (.int .i64 ls[j].shade))
    (hi : ∀ l ∈ ls, (-9223372036854775808 ≤ l.late ∧ l.late ≤ 9223372036854775807)) (hnl : ls.length ≤ 9223372036854775807)
    (hn : New w0 wr) (hB0 : w0.heap.size ≤ B) (hat : WAt NoC B wr (madeW n (ls.take j)) vl vs vt vn) (hjl : j < ls.length) (hj7 : j < 8)
    (HN : Hid (∀ (vl vs vt vn : Value) (u41 u42 u43 u44 u45 u46 u47 u48 u49 u50 u51 u52 u53 u54 u55 u56 u57 u58 u59 u60 u61 u62 u63 u64 u65 u66 u67 u68 u69 u70 u71 u72 u73 u74 u75 u76 u77 u78 u79 u80 u81 u82 u83 u84 u85 u86 u87 u88 u89 u90 u91 u92 u93 u94 u95 u96 : Value) (w : World), New w0 w → WAt NoC B w (madeW n (ls.take (j + 1))) vl vs vt vn → Q .normal ⟨@List.toArray Value (c0 :: c1 :: .slice A ls.length cap :: c3 :: c4 :: c5 :: c6 :: c7 :: c8 :: c9 :: c10 :: c11 :: .pointer (some ⟨B, 0, none⟩) :: .int .i64 (((j + 1 : Nat) : Int) : Int) :: c14 :: c15 :: c16 :: c17 :: c18 :: c19 :: c20 :: c21 :: c22 :: c23 :: c24 :: c25 :: c26 :: c27 :: c28 :: c29 :: c30 :: c31 :: c32 :: c33 :: c34 :: c35 :: c36 :: c37 :: c38 :: c39 :: c40 :: u41 :: u42 :: u43 :: u44 :: u45 :: u46 :: u47 :: u48 :: u49 :: u50 :: u51 :: u52 :: u53 :: u54 :: u55 :: u56 :: u57 :: u58 :: u59 :: u60 :: u61 :: u62 :: u63 :: u64 :: u65 :: u66 :: u67 :: u68 :: u69 :: u70 :: u71 :: u72 :: u73 :: u74 :: u75 :: u76 :: u77 :: u78 :: u79 :: u80 :: u81 :: u82 :: u83 :: u84 :: u85 :: u86 :: u87 :: u88 :: u89 :: u90 :: u91 :: u92 :: u93 :: u94 :: u95 :: u96 :: c97 :: c98 :: c99 :: c100 :: c101 :: c102 :: c103 :: c104 :: c105 :: c106 :: c107 :: c108 :: c109 :: c110 :: c111 :: c112 :: c113 :: c114 :: c115 :: c116 :: c117 :: c118 :: c119 :: c120 :: c121 :: c122 :: c123 :: c124 :: c125 :: c126 :: c127 :: c128 :: c129 :: c130 :: c131 :: c132 :: c133 :: c134 :: c135 :: c136 :: c137 :: c138 :: c139 :: c140 :: c141 :: c142 :: c143 :: c144 :: c145 :: c146 :: c147 :: c148 :: c149 :: c150 :: c151 :: c152 :: c153 :: c154 :: c155 :: c156 :: c157 :: c158 :: c159 :: c160 :: c161 :: c162 :: c163 :: c164 :: c165 :: c166 :: c167 :: c168 :: c169 :: c170 :: c171 :: c172 :: c173 :: c174 :: c175 :: c176 :: c177 :: c178 :: c179 :: c180 :: c181 :: c182 :: c183 :: c184 :: c185 :: c186 :: c187 :: c188 :: c189 :: c190 :: c191 :: c192 :: c193 :: c194 :: c195 :: c196 :: c197 :: c198 :: c199 :: c200 :: c201 :: c202 :: c203 :: c204 :: c205 :: c206 :: c207 :: c208 :: c209 :: c210 :: c211 :: c212 :: c213 :: c214 :: c215 :: c216 :: c217 :: c218 :: c219 :: c220 :: c221 :: c222 :: c223 :: c224 :: c225 :: c226 :: c227 :: c228 :: c229 :: c230 :: c231 :: c232 :: c233 :: c234 :: c235 :: c236 :: c237 :: c238 :: c239 :: c240 :: c241 :: c242 :: c243 :: c244 :: c245 :: c246 :: c247 :: c248 :: c249 :: c250 :: c251 :: c252 :: c253 :: c254 :: c255 :: c256 :: c257 :: c258 :: c259 :: c260 :: c261 :: c262 :: c263 :: c264 :: c265 :: c266 :: c267 :: c268 :: c269 :: c270 :: c271 :: c272 :: c273 :: c274 :: c275 :: c276 :: c277 :: c278 :: c279 :: c280 :: c281 :: c282 :: c283 :: c284 :: c285 :: c286 :: c287 :: c288 :: c289 :: c290 :: c291 :: c292 :: c293 :: c294 :: c295 :: c296 :: c297 :: c298 :: c299 :: c300 :: c301 :: c302 :: c303 :: c304 :: c305 :: c306 :: c307 :: c308 :: c309 :: c310 :: c311 :: c312 :: c313 :: c314 :: c315 :: c316 :: c317 :: c318 :: c319 :: c320 :: c321 :: c322 :: c323 :: c324 :: c325 :: c326 :: c327 :: c328 :: c329 :: c330 :: c331 :: c332 :: c333 :: c334 :: c335 :: c336 :: c337 :: c338 :: c339 :: c340 :: c341 :: c342 :: c343 :: c344 :: c345 :: c346 :: c347 :: c348 :: c349 :: c350 :: c351 :: c352 :: c353 :: c354 :: c355 :: c356 :: c357 :: c358 :: []), []⟩ w)) :
    Code.wp Try.prog body1 Q ⟨@List.toArray Value (c0 :: c1 :: .slice A ls.length cap :: c3 :: c4 :: c5 :: c6 :: c7 :: c8 :: c9 :: c10 :: c11 :: .pointer (some ⟨B, 0, none⟩) :: .int .i64 (j : Int) :: c14 :: c15 :: c16 :: c17 :: c18 :: c19 :: c20 :: c21 :: c22 :: c23 :: c24 :: c25 :: c26 :: c27 :: c28 :: c29 :: c30 :: c31 :: c32 :: c33 :: c34 :: c35 :: c36 :: c37 :: c38 :: c39 :: c40 :: u41 :: u42 :: u43 :: u44 :: u45 :: u46 :: u47 :: u48 :: u49 :: u50 :: u51 :: u52 :: u53 :: u54 :: u55 :: u56 :: u57 :: u58 :: u59 :: u60 :: u61 :: u62 :: u63 :: u64 :: u65 :: u66 :: u67 :: u68 :: u69 :: u70 :: u71 :: u72 :: u73 :: u74 :: u75 :: u76 :: u77 :: u78 :: u79 :: u80 :: u81 :: u82 :: u83 :: u84 :: u85 :: u86 :: u87 :: u88 :: u89 :: u90 :: u91 :: u92 :: u93 :: u94 :: u95 :: u96 :: c97 :: c98 :: c99 :: c100 :: c101 :: c102 :: c103 :: c104 :: c105 :: c106 :: c107 :: c108 :: c109 :: c110 :: c111 :: c112 :: c113 :: c114 :: c115 :: c116 :: c117 :: c118 :: c119 :: c120 :: c121 :: c122 :: c123 :: c124 :: c125 :: c126 :: c127 :: c128 :: c129 :: c130 :: c131 :: c132 :: c133 :: c134 :: c135 :: c136 :: c137 :: c138 :: c139 :: c140 :: c141 :: c142 :: c143 :: c144 :: c145 :: c146 :: c147 :: c148 :: c149 :: c150 :: c151 :: c152 :: c153 :: c154 :: c155 :: c156 :: c157 :: c158 :: c159 :: c160 :: c161 :: c162 :: c163 :: c164 :: c165 :: c166 :: c167 :: c168 :: c169 :: c170 :: c171 :: c172 :: c173 :: c174 :: c175 :: c176 :: c177 :: c178 :: c179 :: c180 :: c181 :: c182 :: c183 :: c184 :: c185 :: c186 :: c187 :: c188 :: c189 :: c190 :: c191 :: c192 :: c193 :: c194 :: c195 :: c196 :: c197 :: c198 :: c199 :: c200 :: c201 :: c202 :: c203 :: c204 :: c205 :: c206 :: c207 :: c208 :: c209 :: c210 :: c211 :: c212 :: c213 :: c214 :: c215 :: c216 :: c217 :: c218 :: c219 :: c220 :: c221 :: c222 :: c223 :: c224 :: c225 :: c226 :: c227 :: c228 :: c229 :: c230 :: c231 :: c232 :: c233 :: c234 :: c235 :: c236 :: c237 :: c238 :: c239 :: c240 :: c241 :: c242 :: c243 :: c244 :: c245 :: c246 :: c247 :: c248 :: c249 :: c250 :: c251 :: c252 :: c253 :: c254 :: c255 :: c256 :: c257 :: c258 :: c259 :: c260 :: c261 :: c262 :: c263 :: c264 :: c265 :: c266 :: c267 :: c268 :: c269 :: c270 :: c271 :: c272 :: c273 :: c274 :: c275 :: c276 :: c277 :: c278 :: c279 :: c280 :: c281 :: c282 :: c283 :: c284 :: c285 :: c286 :: c287 :: c288 :: c289 :: c290 :: c291 :: c292 :: c293 :: c294 :: c295 :: c296 :: c297 :: c298 :: c299 :: c300 :: c301 :: c302 :: c303 :: c304 :: c305 :: c306 :: c307 :: c308 :: c309 :: c310 :: c311 :: c312 :: c313 :: c314 :: c315 :: c316 :: c317 :: c318 :: c319 :: c320 :: c321 :: c322 :: c323 :: c324 :: c325 :: c326 :: c327 :: c328 :: c329 :: c330 :: c331 :: c332 :: c333 :: c334 :: c335 :: c336 :: c337 :: c338 :: c339 :: c340 :: c341 :: c342 :: c343 :: c344 :: c345 :: c346 :: c347 :: c348 :: c349 :: c350 :: c351 :: c352 :: c353 :: c354 :: c355 :: c356 :: c357 :: c358 :: []), []⟩ wr := by
  obtain ⟨i47, hi47, hz470, hz471, hz472⟩ := info_parts info47
  obtain ⟨i4, hi4, hz40, hz41, hz42⟩ := info_parts info4
  obtain ⟨i3, hi3, hz30, hz31, hz32⟩ := info_parts info3
  have hsn := madeW_snoc n (ls.take j) ls[j]
  have htk : ls.take j ++ [ls[j]] = ls.take (j + 1) := by rw [List.take_add_one]; simp [List.getElem?_eq_getElem hjl]
  rw [htk] at hsn
  clear htk
  have hlm : (ls.take j).length = j := by simp; omega
  have m0 : (madeW n (ls.take j)).l.length = j := hlm
  have m1 : (madeW n (ls.take j)).sc.length = j := by simp [madeW]; omega
  have m2 : (madeW n (ls.take j)).td.length = j := by simp [madeW]; omega
  have m3 : (madeW n (ls.take j)).lt.length = j := by simp [madeW]; omega
  obtain ⟨gx, ox, hAx, hgl, x0, x1, x2, x3⟩ := hL j hjl
  subst hAx
  have Y1 := Lib.hid x1
  have y0 := hn.cell x0 (fun x => x)
  have y1 := hn.cell x1 (fun x => x)
  have y2 := hn.cell x2 (fun x => x)
  have y3 := hn.cell x3 (fun x => x)
  have hX := hi ls[j] (List.getElem_mem hjl)
  generalize hM : madeW n (ls.take j) = M at *
  generalize hM2 : madeW n (ls.take (j + 1)) = M' at *
  generalize hXX : ls[j] = X at *
  have HSN := Lib.hid hsn
  have HN1 := Lib.hid hn
  have HAT := Lib.hid hat
  have HX := Lib.hid hX
  have HBW := Lib.hid hB0
  have j0 : (0 : Int) ≤ j := by omega
  have j1 : (j : Int) < ls.length := by omega
  have j2 : (j : Int) < 8 := by omega
  have j3 : IntKind.i64.wrap ((j : Int) + 1) = (j : Int) + 1 := IntWalk.i64_in _ (by omega)
  have n1 : (ls.length : Int) ≤ 9223372036854775807 := by omega
  clear hsn hn hat hX hM hM2 hXX x0 x1 x2 x3 hlm hL hi hB0
  obtain ⟨b0, b1, b2, b3, b4, b5, f0, f1, f2, f3, f4, f5⟩ := blk6f HAT.out.box
  have hBl2 := (Array.getElem?_eq_some_iff.1 HAT.out.box).1
  have M1 := Lib.hid (show M.l.length + 1 ≤ maxLen by unfold maxLen; omega)
  have M2 := Lib.hid (show (M.l.length + 1) * 32 ≤ 140737488355328 by omega)
  have MS1 := Lib.hid (show M.sc.length + 1 ≤ maxLen by unfold maxLen; omega)
  have MS2 := Lib.hid (show (M.sc.length + 1) * 1 ≤ 140737488355328 by omega)
  have MT1 := Lib.hid (show M.td.length + 1 ≤ maxLen by unfold maxLen; omega)
  have MT2 := Lib.hid (show (M.td.length + 1) * 1 ≤ 140737488355328 by omega)
  have MN1 := Lib.hid (show M.lt.length + 1 ≤ maxLen by unfold maxLen; omega)
  have MN2 := Lib.hid (show (M.lt.length + 1) * 8 ≤ 140737488355328 by omega)
  clear m0 m1 m2 m3
  conv => arg 2; whnf
  go_wp2_with fail
  go_cut [] from 41 to 96 (fun wx => ∃ v1, WAt NoC B wx { M with l := M.l ++ [X] } v1 vs vt vn ∧ Upd (fun b => B ≤ b) wr wx)
  case first =>
    have hROW1 := (HAT.out.rl.alloc (.cells #[.bool X.still, .int .i64 X.late, .bool X.born, .int .i64 X.shade] 47)).drew
    have hSRC : SrcRow (wr.alloc (.cells #[.bool X.still, .int .i64 X.late, .bool X.born, .int .i64 X.shade] 47)).drew 4 (.slice (some ⟨wr.heap.size, 0, none⟩) 1 1) 1 (lifeCells [X]) := .inr ⟨wr.heap.size, 1, rfl, rfl, World.news_of_block (w := (wr.alloc (.cells #[.bool X.still, .int .i64 X.late, .bool X.born, .int .i64 X.shade] 47)).drew) (by exact heap_alloc_new wr (.cells #[.bool X.still, .int .i64 X.late, .bool X.born, .int .i64 X.shade] 47))⟩
    have hUP : New wr (wr.alloc (.cells #[.bool X.still, .int .i64 X.late, .bool X.born, .int .i64 X.shade] 47)).drew := ((Upd.refl (fun _ => False) wr).alloc (.cells #[.bool X.still, .int .i64 X.late, .bool X.born, .int .i64 X.shade] 47)).drew
    have hBX1 : (wr.alloc (.cells #[.bool X.still, .int .i64 X.late, .bool X.born, .int .i64 X.shade] 47)).drew.heap[B]? = some (.cells #[vl, vs, vt, vn, .int .i64 M.grey, .int .i64 M.left] 45 (0, 0)) := by exact heap_alloc2 HAT.out.box (.cells #[.bool X.still, .int .i64 X.late, .bool X.born, .int .i64 X.shade] 47)
    have hSZ : B + 1 ≤ (wr.alloc (.cells #[.bool X.still, .int .i64 X.late, .bool X.born, .int .i64 X.shade] 47)).drew.heap.size := by show B + 1 ≤ (wr.alloc (.cells #[.bool X.still, .int .i64 X.late, .bool X.born, .int .i64 X.shade] 47)).heap.size; simp; omega
    have HROW1 := Lib.hid hROW1
    have HSRC := Lib.hid hSRC
    have HUP := Lib.hid hUP
    have HBX1 := Lib.hid hBX1
    have HSZ := Lib.hid hSZ
    clear hROW1 hSRC hUP hBX1 hSZ
    generalize hW3 : (wr.alloc (.cells #[.bool X.still, .int .i64 X.late, .bool X.born, .int .i64 X.shade] 47)).drew = w4 at HROW1 HSRC HUP HBX1 HSZ
    obtain ⟨k0, k1, k2, k3, k4, k5, kf0, kf1, kf2, kf3, kf4, kf5⟩ := blk6f HBX1.out
    have z0 := HUP.out.cell y0 (fun x => x)
    have z1 := HUP.out.cell y1 (fun x => x)
    have z2 := HUP.out.cell y2 (fun x => x)
    have z3 := HUP.out.cell y3 (fun x => x)
    refine wp_region_noPanic ?_
    go_region_law (first
      | (refine step_append_row w4 (by rfl) (.tmp 55) (.tmp 60) 39 (by rfl) (B + 1) 47 i47 _ 4 32 Try.underlying39 hi47 hz470 hz471 hz472 rfl (by decide) vl M.l.length (lifeCells M.l) (by rfl) HROW1.out (.slice (some ⟨wr.heap.size, 0, none⟩) 1 1) 1 (lifeCells [X]) (by rfl) HSRC.out (one_life _) M1.out M2.out HSZ.out ?_; intro v1 w5 ho4 hg4 hat4; obtain ⟨A1, c1, rfl⟩ := own_form ho4; have HT := Lib.hid (HAT.out.app0_l HUP.out [X] ho4 hg4 hat4); obtain ⟨e0, e1, e2, e3, e4, e5, p0, p1, p2, p3, p4, p5⟩ := blk6f (((Upd.refl (fun b => vl.ownBlock = some b) w4).grown hg4 (fun b hb _ => hb)).heap HBX1.out (fun e => HAT.out.neB.1 e)); clear ho4 hg4 hat4))
    all_goals
      simp only [NoPanic, Exit.then]
      have HT1 := Lib.hid HT.out.1
      have HT2 := Lib.hid HT.out.2
      clear HT e0 e1 e2 e3 e4 e5 p0 p1 p2 p3 p4 p5 k0 k1 k2 k3 k4 k5 kf0 kf1 kf2 kf3 kf4 kf5 b0 b1 b2 b3 b4 b5 f0 f1 f2 f3 f4 f5 z0 z1 z2 z3 HBX1 HSZ HUP HSRC HROW1 hW3
      generalize w5.setCell ⟨B, 0, none⟩ (.slice A1 (M.l.length + 1) c1) = w6 at *
      go_step
      go_meet
    all_goals exact ⟨_, HT1.out, HT2.out⟩
  obtain ⟨v1, hcA, hcU⟩ := hcut
  have HT1 := Lib.hid hcA
  have HT2 := Lib.hid hcU
  clear hcA hcU b0 b1 b2 b3 b4 b5 f0 f1 f2 f3 f4 f5
  obtain ⟨b0, b1, b2, b3, b4, b5, f0, f1, f2, f3, f4, f5⟩ := blk6f HT1.out.box
  have HSZ9 := Lib.hid (show B + 1 ≤ (wc.alloc (.cells #[.bool false] 4)).heap.size by have := (Array.getElem?_eq_some_iff.1 HT1.out.box).1; simp; omega)
  have hBl3 := (Array.getElem?_eq_some_iff.1 HT1.out.box).1
  go_upto_region 10 with (at_builtin; refine wpList_append_row (wc.alloc (.cells #[.bool false] 4)) (by rfl) (.tmp 68) (.tmp 69) 40 (by rfl) (B + 1) 4 i4 _ 1 1 Try.underlying40 hi4 hz40 hz41 hz42 rfl (by decide) vs M.sc.length (boolCells M.sc) (by rfl) (HT1.out.rsc.alloc (.cells #[.bool false] 4)) (.slice (some ⟨wc.heap.size, 0, none⟩) 1 1) 1 (boolCells [false]) (by rfl) (.inr ⟨wc.heap.size, 1, rfl, rfl, World.news_of_block (heap_alloc_new wc (.cells #[.bool false] 4))⟩) (one_bool _) MS1.out MS2.out HSZ9.out ?_; intro v9 w7 ho9 hg9 hat9; obtain ⟨A9, c9, rfl⟩ := own_form ho9; have HT9 := Lib.hid (HT1.out.app0_sc ((Upd.refl (fun _ => False) wc).alloc (.cells #[.bool false] 4)) [false] ho9 hg9 hat9); obtain ⟨e0, e1, e2, e3, e4, e5, p0, p1, p2, p3, p4, p5⟩ := blk6f (((Upd.refl (fun b => vs.ownBlock = some b) (wc.alloc (.cells #[.bool false] 4))).grown hg9 (fun b hb _ => hb)).heap (heap_alloc2 HT1.out.box (.cells #[.bool false] 4)) (fun e => HT1.out.neB.2.1 e)); clear ho9 hg9 hat9 b0 b1 b2 b3 b4 b5 f0 f1 f2 f3 f4 f5)
  have HU1 := Lib.hid HT9.out.1
  have HU2 := Lib.hid (HT2.out.trans HT9.out.2)
  clear HT9 e0 e1 e2 e3 e4 e5 p0 p1 p2 p3 p4 p5
  generalize w7.setCell ⟨B, 1, none⟩ (.slice A9 (M.sc.length + 1) c9) = w8 at *
  obtain ⟨b0, b1, b2, b3, b4, b5, f0, f1, f2, f3, f4, f5⟩ := blk6f HU1.out.box
  have HSZ10 := Lib.hid (show B + 1 ≤ (w8.alloc (.cells #[.bool false] 4)).heap.size by have := (Array.getElem?_eq_some_iff.1 HU1.out.box).1; simp; omega)
  go_upto_region 11 with (at_builtin; refine wpList_append_row (w8.alloc (.cells #[.bool false] 4)) (by rfl) (.tmp 77) (.tmp 78) 40 (by rfl) (B + 1) 4 i4 _ 1 1 Try.underlying40 hi4 hz40 hz41 hz42 rfl (by decide) vt M.td.length (boolCells M.td) (by rfl) (HU1.out.rtd.alloc (.cells #[.bool false] 4)) (.slice (some ⟨w8.heap.size, 0, none⟩) 1 1) 1 (boolCells [false]) (by rfl) (.inr ⟨w8.heap.size, 1, rfl, rfl, World.news_of_block (heap_alloc_new w8 (.cells #[.bool false] 4))⟩) (one_bool _) MT1.out MT2.out HSZ10.out ?_; intro v10 w9 ho10 hg10 hat10; obtain ⟨A10, c10, rfl⟩ := own_form ho10; have HT10 := Lib.hid (HU1.out.app0_td ((Upd.refl (fun _ => False) w8).alloc (.cells #[.bool false] 4)) [false] ho10 hg10 hat10); obtain ⟨e0, e1, e2, e3, e4, e5, p0, p1, p2, p3, p4, p5⟩ := blk6f (((Upd.refl (fun b => vt.ownBlock = some b) (w8.alloc (.cells #[.bool false] 4))).grown hg10 (fun b hb _ => hb)).heap (heap_alloc2 HU1.out.box (.cells #[.bool false] 4)) (fun e => HU1.out.neB.2.2.1 e)); clear ho10 hg10 hat10 b0 b1 b2 b3 b4 b5 f0 f1 f2 f3 f4 f5)
  have HV1 := Lib.hid HT10.out.1
  have HV2 := Lib.hid (HU2.out.trans HT10.out.2)
  clear HT10 e0 e1 e2 e3 e4 e5 p0 p1 p2 p3 p4 p5
  generalize w9.setCell ⟨B, 2, none⟩ (.slice A10 (M.td.length + 1) c10) = w10 at *
  obtain ⟨b0, b1, b2, b3, b4, b5, f0, f1, f2, f3, f4, f5⟩ := blk6f HV1.out.box
  have HNA := Lib.hid (((HN1.out.mono (fun _ _ x => x.elim) : Upd (fun b => B ≤ b) w0 wr).trans HV2.out : Upd (fun b => B ≤ b) w0 w10).mono (G := fun _ => False) (fun b hb h => by have := HBW.out; omega) : New w0 w10)
  have t1 := HNA.out.cell Y1.out (fun x => x)
  have HPK := Lib.hid (fun w => pick_calls X.late 4 (by omega) HX.out w)
  generalize hPP : pickI X.late 4 = P at *
  have HPP := Lib.hid hPP
  clear hPP
  refine wp_region_noPanic ?_
  go_region_law (first
    | (go_simp; go_at_call 15; refine (HPK.out _).mono ?_; rintro e wd ⟨rfl, huc⟩; have HNC : Hid (New w10 wd) := Lib.hid (Upd.trans ((Upd.refl (fun _ => False) w10).drew) huc); have HTC := Lib.hid (HV1.out.new HNC.out); obtain ⟨g0, g1, g2, g3, g4, g5, q0, q1, q2, q3, q4, q5⟩ := blk6f HTC.out.box; have hBc := (Array.getElem?_eq_some_iff.1 HTC.out.box).1; have HSZC := Lib.hid (show B + 1 ≤ (wd.alloc (.cells #[.int .i64 P] 3)).heap.size by simp; omega); clear huc)
    | (refine step_append_row (wd.alloc (.cells #[.int .i64 P] 3)) (by rfl) (.tmp 86) (.tmp 93) 43 (by rfl) (B + 1) 3 i3 _ 1 8 Try.underlying43 hi3 hz30 hz31 hz32 rfl (by decide) vn M.lt.length (intCells M.lt) (by rfl) (HTC.out.rlt.alloc (.cells #[.int .i64 P] 3)) (.slice (some ⟨wd.heap.size, 0, none⟩) 1 1) 1 (intCells [P]) (by rfl) (.inr ⟨wd.heap.size, 1, rfl, rfl, World.news_of_block (heap_alloc_new wd (.cells #[.int .i64 P] 3))⟩) (one_int _) MN1.out MN2.out HSZC.out ?_; intro vz wz hoz hgz hatz; obtain ⟨Az, cz, rfl⟩ := own_form hoz; have HTZ := Lib.hid (HTC.out.app0_lt ((Upd.refl (fun _ => False) wd).alloc (.cells #[.int .i64 P] 3)) [P] hoz hgz hatz); obtain ⟨e0, e1, e2, e3, e4, e5, p0, p1, p2, p3, p4, p5⟩ := blk6f (((Upd.refl (fun b => vn.ownBlock = some b) (wd.alloc (.cells #[.int .i64 P] 3))).grown hgz (fun b hb _ => hb)).heap (heap_alloc2 HTC.out.box (.cells #[.int .i64 P] 3)) (fun e => HTC.out.neB.2.2.2 e)); clear hoz hgz hatz))
  all_goals
    simp only [NoPanic, Exit.then, Exit.inBlock]
    have HZ1 := Lib.hid HTZ.out.1
    have HZ2 := Lib.hid (HNA.out.trans HNC.out)
    have HZ3 := Lib.hid HTZ.out.2
    clear HTZ HTC e0 e1 e2 e3 e4 e5 p0 p1 p2 p3 p4 p5 g0 g1 g2 g3 g4 g5 q0 q1 q2 q3 q4 q5 b0 b1 b2 b3 b4 b5 f0 f1 f2 f3 f4 f5 t1 y0 y1 y2 y3
    generalize wz.setCell ⟨B, 3, none⟩ (.slice Az (M.lt.length + 1) cz) = wy at *
    go_wp2_with fail
    have hA9 := HZ1.out
    have hsn := HSN.out

    rw [← hsn] at hA9
    refine HN.out _ _ _ _ _ _ _ _ _ _ _ _ _ _ _ _ _ _ _ _ _ _ _ _ _ _ _ _ _ _ _ _ _ _ _ _ _ _ _ _ _ _ _ _ _ _ _ _ _ _ _ _ _ _ _ _ _ _ _ _ _ ?_ hA9
    exact (((HZ2.out.mono (fun _ _ x => x.elim) : Upd (fun b => B ≤ b) w0 wd).trans HZ3.out)).mono (fun b hb h => by have h : B ≤ b := h; have := HBW.out; omega)
end Go.Proofs.Ytgfabhioliljmaa
