/- CycleEnds: rounds of the second loop (still). -/
import Derived.Test.YtgfabhioliljmaaCeJ
namespace Go.Proofs.Ytgfabhioliljmaa
open Go.RowKit
set_option linter.unusedVariables false
set_option linter.unusedSimpArgs false

set_option maxHeartbeats 8000000 in
set_option maxRecDepth 1000000 in
theorem k_still {w0 wr : World} {C B : Nat} {n g : Int} {bs : List Bool} {A2 : Option Addr} {cap2 : Nat} {x : Wd} {c : Cyc} {steps last checks root freed i : Int} {sw : Nat} {vl vs vt vn : Value} {c0 c1 c2 c4 c5 c6 c7 c8 c9 c13 c15 c30 c31 c32 c33 c34 c35 c36 c37 c38 c39 c40 c41 c42 c43 c44 c45 c46 c47 c48 c49 c50 c51 c52 c53 c54 c55 c56 c57 c58 c59 c60 c61 c62 c63 c64 c65 c66 c67 c68 c69 c70 c71 c72 c73 c74 c75 c76 c77 c78 c79 c80 c81 c82 c83 c84 c85 c86 c87 c88 c89 c90 c91 c92 c93 c94 c95 c96 c97 c98 c99 c100 c101 c102 c103 c309 c310 c311 c312 c313 c314 c315 c316 c317 c318 c319 c320 c321 c322 c323 c324 c325 c326 c327 c328 c329 c330 c331 c332 c333 c334 c335 c336 c337 c338 c339 c340 c341 c342 c343 c344 c345 c346 c347 c348 c349 c350 c351 c352 c353 c354 c355 c356 c357 c358 : Value} {u23 u24 u25 u26 u27 u28 u29 u104 u105 u106 u107 u108 u109 u110 u111 u112 u113 u114 u115 u116 u117 u118 u119 u120 u121 u122 u123 u124 u125 u126 u127 u128 u129 u130 u131 u132 u133 u134 u135 u136 u137 u138 u139 u140 u141 u142 u143 u144 u145 u146 u147 u148 u149 u150 u151 u152 u153 u154 u155 u156 u157 u158 u159 u160 u161 u162 u163 u164 u165 u166 u167 u168 u169 u170 u171 u172 u173 u174 u175 u176 u177 u178 u179 u180 u181 u182 u183 u184 u185 u186 u187 u188 u189 u190 u191 u192 u193 u194 u195 u196 u197 u198 u199 u200 u201 u202 u203 u204 u205 u206 u207 u208 u209 u210 u211 u212 u213 u214 u215 u216 u217 u218 u219 u220 u221 u222 u223 u224 u225 u226 u227 u228 u229 u230 u231 u232 u233 u234 u235 u236 u237 u238 u239 u240 u241 u242 u243 u244 u245 u246 u247 u248 u249 u250 u251 u252 u253 u254 u255 u256 u257 u258 u259 u260 u261 u262 u263 u264 u265 u266 u267 u268 u269 u270 u271 u272 u273 u274 u275 u276 u277 u278 u279 u280 u281 u282 u283 u284 u285 u286 u287 u288 u289 u290 u291 u292 u293 u294 u295 u296 u297 u298 u299 u300 u301 u302 u303 u304 u305 u306 u307 u308 : Value} {Q : Exit → Act → World → Prop} {k : Nat}
    (hA : WAt (fun b => b = C) B wr x vl vs vt vn) (hC : wr.heap[C]? = some (.cells (cycC c) 27 (0, 0))) (hU : New w0 wr) (hBC : B < C) (hB0 : w0.heap.size ≤ B)
    (hbs : ∀ j (h : j < bs.length), ∃ g o, A2 = some ⟨g, o, none⟩ ∧ g < w0.heap.size ∧ w0.cell? ⟨g, o + j, none⟩ = some (.bool bs[j])) (hnb : bs.length ≤ 9223372036854775807) (ho : WOk x) (hph : 0 ≤ c.ph) (hnn : 0 ≤ n ∧ n < 300) (hgg : 0 ≤ g ∧ g < 65)
    (hb : 0 ≤ steps ∧ steps ≤ 3000 ∧ 0 ≤ i ∧ i ≤ 4000 ∧ 0 ≤ root ∧ root ≤ 65 ∧ (0 : Int) ≤ sw ∧ (sw : Int) ≤ 300 ∧ 0 ≤ freed ∧ freed ≤ 300 ∧ 0 ≤ checks ∧ checks ≤ 1 ∧ 0 ≤ last ∧ last ≤ 6)
    (hd : nextD c (aroW x n g) = ⟨21, 0, (k : Int) + 1, 0⟩) (hk : k < x.l.length) (ht : (aroW x n g).thread = (k : Int) + 1) (hst : (aroW x n g).still = true) (hs : ∀ b, stepC c (aroW x n g) b = (c, 0)) (hlast : last ≤ 2) (h0 : 0 < steps) (hi : Inv n g ⟨shadeW (pickI (shdW k x) 5) { x with sc := x.sc.set k true }, c, steps + 1, 2, checks, root, sw, freed, i + 1⟩)
    (HN : Hid (∀ (t : Sta) (u23 u24 u25 u26 u27 u28 u29 u104 u105 u106 u107 u108 u109 u110 u111 u112 u113 u114 u115 u116 u117 u118 u119 u120 u121 u122 u123 u124 u125 u126 u127 u128 u129 u130 u131 u132 u133 u134 u135 u136 u137 u138 u139 u140 u141 u142 u143 u144 u145 u146 u147 u148 u149 u150 u151 u152 u153 u154 u155 u156 u157 u158 u159 u160 u161 u162 u163 u164 u165 u166 u167 u168 u169 u170 u171 u172 u173 u174 u175 u176 u177 u178 u179 u180 u181 u182 u183 u184 u185 u186 u187 u188 u189 u190 u191 u192 u193 u194 u195 u196 u197 u198 u199 u200 u201 u202 u203 u204 u205 u206 u207 u208 u209 u210 u211 u212 u213 u214 u215 u216 u217 u218 u219 u220 u221 u222 u223 u224 u225 u226 u227 u228 u229 u230 u231 u232 u233 u234 u235 u236 u237 u238 u239 u240 u241 u242 u243 u244 u245 u246 u247 u248 u249 u250 u251 u252 u253 u254 u255 u256 u257 u258 u259 u260 u261 u262 u263 u264 u265 u266 u267 u268 u269 u270 u271 u272 u273 u274 u275 u276 u277 u278 u279 u280 u281 u282 u283 u284 u285 u286 u287 u288 u289 u290 u291 u292 u293 u294 u295 u296 u297 u298 u299 u300 u301 u302 u303 u304 u305 u306 u307 u308 : Value) (w : World), Rel2 w0 C B n g t w → t.i = i + 1 → Q (.normal) ⟨@List.toArray Value (c0 :: c1 :: c2 :: .slice A2 bs.length cap2 :: c4 :: c5 :: c6 :: c7 :: c8 :: c9 :: .int .i64 n :: .int .i64 g :: .pointer (some ⟨B, 0, none⟩) :: c13 :: .pointer (some ⟨C, 0, none⟩) :: c15 :: .int .i64 t.steps :: .int .i64 t.last :: .int .i64 t.checks :: .int .i64 t.root :: .int .i64 t.swept :: .int .i64 t.freed :: .int .i64 t.i :: u23 :: u24 :: u25 :: u26 :: u27 :: u28 :: u29 :: c30 :: c31 :: c32 :: c33 :: c34 :: c35 :: c36 :: c37 :: c38 :: c39 :: c40 :: c41 :: c42 :: c43 :: c44 :: c45 :: c46 :: c47 :: c48 :: c49 :: c50 :: c51 :: c52 :: c53 :: c54 :: c55 :: c56 :: c57 :: c58 :: c59 :: c60 :: c61 :: c62 :: c63 :: c64 :: c65 :: c66 :: c67 :: c68 :: c69 :: c70 :: c71 :: c72 :: c73 :: c74 :: c75 :: c76 :: c77 :: c78 :: c79 :: c80 :: c81 :: c82 :: c83 :: c84 :: c85 :: c86 :: c87 :: c88 :: c89 :: c90 :: c91 :: c92 :: c93 :: c94 :: c95 :: c96 :: c97 :: c98 :: c99 :: c100 :: c101 :: c102 :: c103 :: u104 :: u105 :: u106 :: u107 :: u108 :: u109 :: u110 :: u111 :: u112 :: u113 :: u114 :: u115 :: u116 :: u117 :: u118 :: u119 :: u120 :: u121 :: u122 :: u123 :: u124 :: u125 :: u126 :: u127 :: u128 :: u129 :: u130 :: u131 :: u132 :: u133 :: u134 :: u135 :: u136 :: u137 :: u138 :: u139 :: u140 :: u141 :: u142 :: u143 :: u144 :: u145 :: u146 :: u147 :: u148 :: u149 :: u150 :: u151 :: u152 :: u153 :: u154 :: u155 :: u156 :: u157 :: u158 :: u159 :: u160 :: u161 :: u162 :: u163 :: u164 :: u165 :: u166 :: u167 :: u168 :: u169 :: u170 :: u171 :: u172 :: u173 :: u174 :: u175 :: u176 :: u177 :: u178 :: u179 :: u180 :: u181 :: u182 :: u183 :: u184 :: u185 :: u186 :: u187 :: u188 :: u189 :: u190 :: u191 :: u192 :: u193 :: u194 :: u195 :: u196 :: u197 :: u198 :: u199 :: u200 :: u201 :: u202 :: u203 :: u204 :: u205 :: u206 :: u207 :: u208 :: u209 :: u210 :: u211 :: u212 :: u213 :: u214 :: u215 :: u216 :: u217 :: u218 :: u219 :: u220 :: u221 :: u222 :: u223 :: u224 :: u225 :: u226 :: u227 :: u228 :: u229 :: u230 :: u231 :: u232 :: u233 :: u234 :: u235 :: u236 :: u237 :: u238 :: u239 :: u240 :: u241 :: u242 :: u243 :: u244 :: u245 :: u246 :: u247 :: u248 :: u249 :: u250 :: u251 :: u252 :: u253 :: u254 :: u255 :: u256 :: u257 :: u258 :: u259 :: u260 :: u261 :: u262 :: u263 :: u264 :: u265 :: u266 :: u267 :: u268 :: u269 :: u270 :: u271 :: u272 :: u273 :: u274 :: u275 :: u276 :: u277 :: u278 :: u279 :: u280 :: u281 :: u282 :: u283 :: u284 :: u285 :: u286 :: u287 :: u288 :: u289 :: u290 :: u291 :: u292 :: u293 :: u294 :: u295 :: u296 :: u297 :: u298 :: u299 :: u300 :: u301 :: u302 :: u303 :: u304 :: u305 :: u306 :: u307 :: u308 :: c309 :: c310 :: c311 :: c312 :: c313 :: c314 :: c315 :: c316 :: c317 :: c318 :: c319 :: c320 :: c321 :: c322 :: c323 :: c324 :: c325 :: c326 :: c327 :: c328 :: c329 :: c330 :: c331 :: c332 :: c333 :: c334 :: c335 :: c336 :: c337 :: c338 :: c339 :: c340 :: c341 :: c342 :: c343 :: c344 :: c345 :: c346 :: c347 :: c348 :: c349 :: c350 :: c351 :: c352 :: c353 :: c354 :: c355 :: c356 :: c357 :: c358 :: []), []⟩ w)) :
    Code.wp Try.prog body2 Q ⟨@List.toArray Value (c0 :: c1 :: c2 :: .slice A2 bs.length cap2 :: c4 :: c5 :: c6 :: c7 :: c8 :: c9 :: .int .i64 n :: .int .i64 g :: .pointer (some ⟨B, 0, none⟩) :: c13 :: .pointer (some ⟨C, 0, none⟩) :: c15 :: .int .i64 steps :: .int .i64 last :: .int .i64 checks :: .int .i64 root :: .int .i64 (sw : Int) :: .int .i64 freed :: .int .i64 i :: u23 :: u24 :: u25 :: u26 :: u27 :: u28 :: u29 :: c30 :: c31 :: c32 :: c33 :: c34 :: c35 :: c36 :: c37 :: c38 :: c39 :: c40 :: c41 :: c42 :: c43 :: c44 :: c45 :: c46 :: c47 :: c48 :: c49 :: c50 :: c51 :: c52 :: c53 :: c54 :: c55 :: c56 :: c57 :: c58 :: c59 :: c60 :: c61 :: c62 :: c63 :: c64 :: c65 :: c66 :: c67 :: c68 :: c69 :: c70 :: c71 :: c72 :: c73 :: c74 :: c75 :: c76 :: c77 :: c78 :: c79 :: c80 :: c81 :: c82 :: c83 :: c84 :: c85 :: c86 :: c87 :: c88 :: c89 :: c90 :: c91 :: c92 :: c93 :: c94 :: c95 :: c96 :: c97 :: c98 :: c99 :: c100 :: c101 :: c102 :: c103 :: u104 :: u105 :: u106 :: u107 :: u108 :: u109 :: u110 :: u111 :: u112 :: u113 :: u114 :: u115 :: u116 :: u117 :: u118 :: u119 :: u120 :: u121 :: u122 :: u123 :: u124 :: u125 :: u126 :: u127 :: u128 :: u129 :: u130 :: u131 :: u132 :: u133 :: u134 :: u135 :: u136 :: u137 :: u138 :: u139 :: u140 :: u141 :: u142 :: u143 :: u144 :: u145 :: u146 :: u147 :: u148 :: u149 :: u150 :: u151 :: u152 :: u153 :: u154 :: u155 :: u156 :: u157 :: u158 :: u159 :: u160 :: u161 :: u162 :: u163 :: u164 :: u165 :: u166 :: u167 :: u168 :: u169 :: u170 :: u171 :: u172 :: u173 :: u174 :: u175 :: u176 :: u177 :: u178 :: u179 :: u180 :: u181 :: u182 :: u183 :: u184 :: u185 :: u186 :: u187 :: u188 :: u189 :: u190 :: u191 :: u192 :: u193 :: u194 :: u195 :: u196 :: u197 :: u198 :: u199 :: u200 :: u201 :: u202 :: u203 :: u204 :: u205 :: u206 :: u207 :: u208 :: u209 :: u210 :: u211 :: u212 :: u213 :: u214 :: u215 :: u216 :: u217 :: u218 :: u219 :: u220 :: u221 :: u222 :: u223 :: u224 :: u225 :: u226 :: u227 :: u228 :: u229 :: u230 :: u231 :: u232 :: u233 :: u234 :: u235 :: u236 :: u237 :: u238 :: u239 :: u240 :: u241 :: u242 :: u243 :: u244 :: u245 :: u246 :: u247 :: u248 :: u249 :: u250 :: u251 :: u252 :: u253 :: u254 :: u255 :: u256 :: u257 :: u258 :: u259 :: u260 :: u261 :: u262 :: u263 :: u264 :: u265 :: u266 :: u267 :: u268 :: u269 :: u270 :: u271 :: u272 :: u273 :: u274 :: u275 :: u276 :: u277 :: u278 :: u279 :: u280 :: u281 :: u282 :: u283 :: u284 :: u285 :: u286 :: u287 :: u288 :: u289 :: u290 :: u291 :: u292 :: u293 :: u294 :: u295 :: u296 :: u297 :: u298 :: u299 :: u300 :: u301 :: u302 :: u303 :: u304 :: u305 :: u306 :: u307 :: u308 :: c309 :: c310 :: c311 :: c312 :: c313 :: c314 :: c315 :: c316 :: c317 :: c318 :: c319 :: c320 :: c321 :: c322 :: c323 :: c324 :: c325 :: c326 :: c327 :: c328 :: c329 :: c330 :: c331 :: c332 :: c333 :: c334 :: c335 :: c336 :: c337 :: c338 :: c339 :: c340 :: c341 :: c342 :: c343 :: c344 :: c345 :: c346 :: c347 :: c348 :: c349 :: c350 :: c351 :: c352 :: c353 :: c354 :: c355 :: c356 :: c357 :: c358 :: []), []⟩ wr := by
  obtain ⟨p0, p1, p2, p3, p4, p5, p6, p7, p8, p9, p10, p11, p12, p13⟩ := hb
  obtain ⟨th, st, tol, gr, har⟩ : ∃ th st tol gr, aroW x n g = ⟨n, g, th, st, tol, gr⟩ := ⟨_, _, _, _, rfl⟩
  have h16 := around_calls hA ho n g
  rw [har] at h16 hd
  rw [har] at ht hst
  simp only [har] at hs
  dsimp only at ht hst
  dsimp only at h16
  have H16 := Lib.hid h16
  have h9 := fun w => next_at c ⟨n, g, th, st, tol, gr⟩ hph ⟨21, 0, (k : Int) + 1, 0⟩ hd w
  dsimp only at h9
  have H9 := Lib.hid h9
  have h10 := fun b w => step_at c ⟨n, g, th, st, tol, gr⟩ b hph (c, 0) (hs b) w
  dsimp only at h10
  have H10 := Lib.hid h10
  clear h10
  subst ht
  subst hst
  have HI := Lib.hid hi
  clear hi hs
  have e1 : IntKind.i64.wrap (i + 1) = i + 1 := IntWalk.i64_in _ (by omega)
  have e2 : IntKind.i64.wrap (steps + 1) = steps + 1 := IntWalk.i64_in _ (by omega)
  have hl : decide (i < 100000) = true := by simp; omega
  have HA := Lib.hid hA
  have HC := Lib.hid hC
  have HU := Lib.hid hU
  have HO := Lib.hid ho
  have HB := Lib.hid hbs
  have HBC := Lib.hid hBC
  have HB0 := Lib.hid hB0
  have HG := Lib.hid hgg
  have HNN := Lib.hid hnn
  have hCl : C < wr.heap.size := (Array.getElem?_eq_some_iff.1 hC).1
  have hBne : B ≠ C := Nat.ne_of_lt hBC
  clear hA hC hU ho hbs hd h16 h9 har p2 p3 hBC hB0 hgg hnn
  conv => arg 2; whnf
  go_wp2_with fail
  refine H16.out.mono ?_
  rintro e w1 ⟨rfl, hu1⟩
  dsimp only
  have HU1 := Lib.hid hu1
  have hC1 : C < w1.heap.size := Nat.lt_of_lt_of_le hCl hu1.size
  have hc1 := hu1.heap HC.out (fun x => x)
  have HC1 := Lib.hid hc1
  obtain ⟨q0, q1, q2, q3, q4, q5, -, -, -, -, -, -⟩ := blk6f hc1
  clear hu1 hc1
  go_wp2_with fail
  refine (H9.out _).mono ?_
  rintro e w2 ⟨rfl, hu2⟩
  dsimp only
  have hA2 := hu2.heap (heap_alloc_new w1 (.cells #[.int .i64 n, .int .i64 g, .int .i64 ((k : Int) + 1), .bool true, .bool tol, .bool gr] 29)) (fun x => x)
  have HC2 := Lib.hid (hu2.heap (halloc HC1.out (.cells #[.int .i64 n, .int .i64 g, .int .i64 ((k : Int) + 1), .bool true, .bool tol, .bool gr] 29)) (fun x => x))
  have HU2 := Lib.hid ((HU1.out.alloc (.cells #[.int .i64 n, .int .i64 g, .int .i64 ((k : Int) + 1), .bool true, .bool tol, .bool gr] 29)).trans hu2)
  have hA2s : w1.heap.size < w2.heap.size := (Array.getElem?_eq_some_iff.1 hA2).1
  have hC2s : C < w2.heap.size := by omega
  have hws : wr.heap.size ≤ w1.heap.size := HU1.out.size
  clear hu2 q0 q1 q2 q3 q4 q5 HU1 HC1
  generalize w1.heap.size = Ab at *
  have HA2 := Lib.hid hA2
  clear hA2
  go_wp2_with fail
  refine (rank_calls _ _).mono ?_
  rintro e w3 ⟨rfl, hu3⟩
  dsimp only
  have hR : rankI 21 = 2 := by decide
  rw [hR]
  clear hR
  have HD3 := Lib.hid (hu3.heap (heap_alloc_new w2 (.cells #[.int .u8 21, .int .i64 0, .int .i64 ((k : Int) + 1), .int .i64 0] 34)) (fun x => x))
  have HA3 := Lib.hid (hu3.heap (halloc HA2.out (.cells #[.int .u8 21, .int .i64 0, .int .i64 ((k : Int) + 1), .int .i64 0] 34)) (fun x => x))
  have HC3 := Lib.hid (hu3.heap (halloc HC2.out (.cells #[.int .u8 21, .int .i64 0, .int .i64 ((k : Int) + 1), .int .i64 0] 34)) (fun x => x))
  have HU3 := Lib.hid ((HU2.out.alloc (.cells #[.int .u8 21, .int .i64 0, .int .i64 ((k : Int) + 1), .int .i64 0] 34)).trans hu3)
  have hD3s : w2.heap.size < w3.heap.size := (Array.getElem?_eq_some_iff.1 HD3.out).1
  clear hu3 HA2 HC2 HU2
  generalize w2.heap.size = Db at *
  have HW3 := Lib.hid (HA.out.prot (C' := fun b => b = C ∨ b = Ab ∨ b = Db) HU3.out (fun b hb => by
    rcases hb with rfl | rfl | rfl
    · exact .inl rfl
    · exact .inr ⟨hws, by omega⟩
    · exact .inr ⟨by omega, hD3s⟩))
  have n1 : C ≠ Ab := by omega
  have n2 : C ≠ Db := by omega
  have n3 : Ab ≠ Db := by omega
  have nB1 : B ≠ Ab := by have := HBC.out; omega
  have nB2 : B ≠ Db := by have := HBC.out; omega
  obtain ⟨d0, d1, d2, d3, -, -, -, -⟩ := blk4f HD3.out
  by_cases hlt : sw < bs.length
  · obtain ⟨gx, ox, hAx, hgx, hcx⟩ := HB.out sw hlt
    subst hAx
    have y0 := HU3.out.cell (HU.out.cell hcx (fun x => x)) (fun x => x)
    clear hcx
    have s1 : (sw : Int) < bs.length := by omega
    generalize bs[sw] = bk at *
    have hBl : B < w3.heap.size := (Array.getElem?_eq_some_iff.1 HW3.out.box).1
    obtain ⟨b0, b1, b2, b3, b4, b5, bf0, bf1, bf2, bf3, bf4, bf5⟩ := blk6f HW3.out.box
    have hk2 : k < x.sc.length := by have := HO.out.ns; omega
    obtain ⟨gs, cs, rfl⟩ := own_some HW3.out.rsc (by omega)
    obtain ⟨gl, cl, rfl⟩ := own_some HW3.out.rl (by omega)
    obtain ⟨s0, sf0⟩ := own_at HW3.out.rsc k _ (boolCells_get x.sc k hk2)
    have hgs : gs < w3.heap.size := (ownrow_lt HW3.out.rsc gs rfl).2
    have i0 : (0 : Int) ≤ k := by omega
    have i1 : (k : Int) < x.sc.length := by omega
    have i8 : (k : Int) ≤ 8 := by have := HO.out.n8; omega
    have hshd := HO.out.shd _ (List.getElem_mem hk)
    generalize x.sc[k] = sck at *
    have HCM := HC3
    have HDM := HD3
    have HAM := HA3
    obtain ⟨f0, f1, f2, f3, f4, f5, -, -, -, -, -, -⟩ := blk6f HCM.out
    obtain ⟨g0, g1, g2, g3, g4, g5, -, -, -, -, -, -⟩ := blk6f HAM.out
    obtain ⟨d0, d1, d2, d3, -, -, -, -⟩ := blk4f HDM.out
    clear HCM HDM HAM
    go_wp2_with fail
    have e9 : IntKind.i64.wrap (k : Int) = (k : Int) := IntWalk.i64_in _ (by omega)
    go_still_tail 8, (by kernel_rfl)
    change wpList _ _ _ _ _ w3.drew
    go_wp2_with fail
    clear b0 b1 b2 b3 b4 b5 bf0 bf1 bf2 bf3 bf4 bf5 f0 f1 f2 f3 f4 f5 g0 g1 g2 g3 g4 g5 d0 d1 d2 d3 s0 sf0 e9
    have hset := HW3.out.set_sc rfl k (.bool true) (x.sc.set k true) (boolCells_set _ _ _) (by simp) rfl
    have HS := Lib.hid (hset.1.new ((Upd.refl (fun _ => False) _).drew))
    have HUS := Lib.hid hset.2.drew
    clear hset
    generalize (w3.setCell ⟨gs, k, none⟩ (.bool true)).drew = w6 at *
    have hsh : shdW k x = x.l[k].shade := by simp [shdW, hk]
    have c1 := own_at HS.out.rl (k * 4 + 3) _ ((lifeCells_get x.l k hk 3 (by omega)).trans rfl)
    obtain ⟨c1, -⟩ := c1
    replace c1 : w6.cell? ⟨gl, k * 4 + 3, none⟩ = some (.int .i64 x.l[k].shade) := c1
    rw [← hsh] at c1 hshd
    clear hsh
    have hgl : gl < w6.heap.size := (ownrow_lt HS.out.rl gl rfl).2
    have hpp := pick_pos (shdW k x)
    have hpq := (pickI_lt (shdW k x) 5 (by omega)).2
    have HP := Lib.hid (fun w => pick_same (shdW k x) 5 (by omega) hshd w)
    generalize shdW k x = shd at *
    have HPP := Lib.hid hpp
    have HPQ := Lib.hid hpq
    obtain ⟨b0, b1, b2, b3, b4, b5, -, -, -, -, -, -⟩ := blk6f HS.out.box
    have HD6 := Lib.hid (HUS.out.heap HD3.out (fun h => h.2 (.inr (.inr rfl))))
    obtain ⟨d0, d1, d2, d3, -, -, -, -⟩ := blk4f HD6.out
    have i3 : (k : Int) < x.l.length := by omega
    have e9 : IntKind.i64.wrap (k : Int) = (k : Int) := IntWalk.i64_in _ (by omega)
    clear hshd hpp hpq
    go_wp2_with fail
    go_still_tail 12, (by kernel_rfl)
    still_call (HP.out _)
    repeat still_step
    refine wpStill_nil ?_
    change wpList _ _ _ _ _ w6.drew
    go_wp2_with fail
    clear b0 b1 b2 b3 b4 b5 d0 d1 d2 d3 c1 e9
    refine (shade_calls (HS.out.new ((Upd.refl (fun _ => False) _).drew)) (fun h => by have := HBC.out; omega) (pickI shd 5) (by have := HPP.out; have := HPQ.out; omega) (by have := HO.out.g0; have := HO.out.l0; have := HO.out.gl; show 0 ≤ x.grey ∧ x.grey ≤ 1000; omega) (by have := HO.out.g0; have := HO.out.l0; have := HO.out.gl; show 0 ≤ x.left ∧ x.left ≤ 1000; omega)).mono ?_
    rintro e w4 ⟨rfl, hu4, hw4⟩
    dsimp only
    have HUM := Lib.hid (Upd.trans HUS.out.drew hu4)
    have HWM := Lib.hid hw4
    have HCM := Lib.hid (HUM.out.heap HC3.out (fun h => h.2 (.inl rfl)))
    have HAM := Lib.hid (HUM.out.heap HA3.out (fun h => h.2 (.inr (.inl rfl))))
    have HDM := Lib.hid (HUM.out.heap HD3.out (fun h => h.2 (.inr (.inr rfl))))
    clear hu4 hw4
    obtain ⟨f0, f1, f2, f3, f4, f5, -, -, -, -, -, -⟩ := blk6f HCM.out
    obtain ⟨g0, g1, g2, g3, g4, g5, -, -, -, -, -, -⟩ := blk6f HAM.out
    obtain ⟨d0, d1, d2, d3, -, -, -, -⟩ := blk4f HDM.out
    go_wp2_with fail
    clear f0 f1 f2 f3 f4 f5 g0 g1 g2 g3 g4 g5 d0 d1 d2 d3
    refine (H10.out _ _).mono ?_
    rintro e w5 ⟨rfl, hu5⟩
    dsimp only
    have HU5 := Lib.hid hu5
    obtain ⟨f0, f1, f2, f3, f4, f5, ff0, ff1, ff2, ff3, ff4, ff5⟩ := blk6f (hu5.heap HCM.out (fun x => x))
    obtain ⟨d0, d1, d2, d3, -, -, -, -⟩ := blk4f (hu5.heap HDM.out (fun x => x))
    have hC5 : C < w5.heap.size := (Array.getElem?_eq_some_iff.1 (hu5.heap HCM.out (fun x => x))).1
    have hD5 : Db < w5.heap.size := (Array.getElem?_eq_some_iff.1 (hu5.heap HDM.out (fun x => x))).1
    clear hu5
    go_wp2_with fail
    exact HN.out ⟨shadeW (pickI (shd) 5) { x with sc := x.sc.set k true }, c, steps + 1, 2, checks, root, sw, freed, i + 1⟩ _ _ _ _ _ _ _ _ _ _ _ _ _ _ _ _ _ _ _ _ _ _ _ _ _ _ _ _ _ _ _ _ _ _ _ _ _ _ _ _ _ _ _ _ _ _ _ _ _ _ _ _ _ _ _ _ _ _ _ _ _ _ _ _ _ _ _ _ _ _ _ _ _ _ _ _ _ _ _ _ _ _ _ _ _ _ _ _ _ _ _ _ _ _ _ _ _ _ _ _ _ _ _ _ _ _ _ _ _ _ _ _ _ _ _ _ _ _ _ _ _ _ _ _ _ _ _ _ _ _ _ _ _ _ _ _ _ _ _ _ _ _ _ _ _ _ _ _ _ _ _ _ _ _ _ _ _ _ _ _ _ _ _ _ _ _ _ _ _ _ _ _ _ _ _ _ _ _ _ _ _ _ _ _ _ _ _ _ _ _ _ _ _ _ _ _ _ _ _ _ _ _ _ _ _ _ _ _ _ _ _ _ _ (fin2 n g ⟨shadeW (pickI (shd) 5) { x with sc := x.sc.set k true }, c, steps + 1, 2, checks, root, sw, freed, i + 1⟩ HI.out HU.out HB0.out HBC.out HU3.out HUM.out HWM.out (.inl rfl) HU5.out HCM.out _) rfl
  · have s1 : ¬ (sw : Int) < bs.length := by omega
    have hBl : B < w3.heap.size := (Array.getElem?_eq_some_iff.1 HW3.out.box).1
    obtain ⟨b0, b1, b2, b3, b4, b5, bf0, bf1, bf2, bf3, bf4, bf5⟩ := blk6f HW3.out.box
    have hk2 : k < x.sc.length := by have := HO.out.ns; omega
    obtain ⟨gs, cs, rfl⟩ := own_some HW3.out.rsc (by omega)
    obtain ⟨gl, cl, rfl⟩ := own_some HW3.out.rl (by omega)
    obtain ⟨s0, sf0⟩ := own_at HW3.out.rsc k _ (boolCells_get x.sc k hk2)
    have hgs : gs < w3.heap.size := (ownrow_lt HW3.out.rsc gs rfl).2
    have i0 : (0 : Int) ≤ k := by omega
    have i1 : (k : Int) < x.sc.length := by omega
    have i8 : (k : Int) ≤ 8 := by have := HO.out.n8; omega
    have hshd := HO.out.shd _ (List.getElem_mem hk)
    generalize x.sc[k] = sck at *
    have HCM := HC3
    have HDM := HD3
    have HAM := HA3
    obtain ⟨f0, f1, f2, f3, f4, f5, -, -, -, -, -, -⟩ := blk6f HCM.out
    obtain ⟨g0, g1, g2, g3, g4, g5, -, -, -, -, -, -⟩ := blk6f HAM.out
    obtain ⟨d0, d1, d2, d3, -, -, -, -⟩ := blk4f HDM.out
    clear HCM HDM HAM
    go_wp2_with fail
    have e9 : IntKind.i64.wrap (k : Int) = (k : Int) := IntWalk.i64_in _ (by omega)
    go_still_tail 8, (by kernel_rfl)
    change wpList _ _ _ _ _ w3.drew
    go_wp2_with fail
    clear b0 b1 b2 b3 b4 b5 bf0 bf1 bf2 bf3 bf4 bf5 f0 f1 f2 f3 f4 f5 g0 g1 g2 g3 g4 g5 d0 d1 d2 d3 s0 sf0 e9
    have hset := HW3.out.set_sc rfl k (.bool true) (x.sc.set k true) (boolCells_set _ _ _) (by simp) rfl
    have HS := Lib.hid (hset.1.new ((Upd.refl (fun _ => False) _).drew))
    have HUS := Lib.hid hset.2.drew
    clear hset
    generalize (w3.setCell ⟨gs, k, none⟩ (.bool true)).drew = w6 at *
    have hsh : shdW k x = x.l[k].shade := by simp [shdW, hk]
    have c1 := own_at HS.out.rl (k * 4 + 3) _ ((lifeCells_get x.l k hk 3 (by omega)).trans rfl)
    obtain ⟨c1, -⟩ := c1
    replace c1 : w6.cell? ⟨gl, k * 4 + 3, none⟩ = some (.int .i64 x.l[k].shade) := c1
    rw [← hsh] at c1 hshd
    clear hsh
    have hgl : gl < w6.heap.size := (ownrow_lt HS.out.rl gl rfl).2
    have hpp := pick_pos (shdW k x)
    have hpq := (pickI_lt (shdW k x) 5 (by omega)).2
    have HP := Lib.hid (fun w => pick_same (shdW k x) 5 (by omega) hshd w)
    generalize shdW k x = shd at *
    have HPP := Lib.hid hpp
    have HPQ := Lib.hid hpq
    obtain ⟨b0, b1, b2, b3, b4, b5, -, -, -, -, -, -⟩ := blk6f HS.out.box
    have HD6 := Lib.hid (HUS.out.heap HD3.out (fun h => h.2 (.inr (.inr rfl))))
    obtain ⟨d0, d1, d2, d3, -, -, -, -⟩ := blk4f HD6.out
    have i3 : (k : Int) < x.l.length := by omega
    have e9 : IntKind.i64.wrap (k : Int) = (k : Int) := IntWalk.i64_in _ (by omega)
    clear hshd hpp hpq
    go_wp2_with fail
    go_still_tail 12, (by kernel_rfl)
    still_call (HP.out _)
    repeat still_step
    refine wpStill_nil ?_
    change wpList _ _ _ _ _ w6.drew
    go_wp2_with fail
    clear b0 b1 b2 b3 b4 b5 d0 d1 d2 d3 c1 e9
    refine (shade_calls (HS.out.new ((Upd.refl (fun _ => False) _).drew)) (fun h => by have := HBC.out; omega) (pickI shd 5) (by have := HPP.out; have := HPQ.out; omega) (by have := HO.out.g0; have := HO.out.l0; have := HO.out.gl; show 0 ≤ x.grey ∧ x.grey ≤ 1000; omega) (by have := HO.out.g0; have := HO.out.l0; have := HO.out.gl; show 0 ≤ x.left ∧ x.left ≤ 1000; omega)).mono ?_
    rintro e w4 ⟨rfl, hu4, hw4⟩
    dsimp only
    have HUM := Lib.hid (Upd.trans HUS.out.drew hu4)
    have HWM := Lib.hid hw4
    have HCM := Lib.hid (HUM.out.heap HC3.out (fun h => h.2 (.inl rfl)))
    have HAM := Lib.hid (HUM.out.heap HA3.out (fun h => h.2 (.inr (.inl rfl))))
    have HDM := Lib.hid (HUM.out.heap HD3.out (fun h => h.2 (.inr (.inr rfl))))
    clear hu4 hw4
    obtain ⟨f0, f1, f2, f3, f4, f5, -, -, -, -, -, -⟩ := blk6f HCM.out
    obtain ⟨g0, g1, g2, g3, g4, g5, -, -, -, -, -, -⟩ := blk6f HAM.out
    obtain ⟨d0, d1, d2, d3, -, -, -, -⟩ := blk4f HDM.out
    go_wp2_with fail
    clear f0 f1 f2 f3 f4 f5 g0 g1 g2 g3 g4 g5 d0 d1 d2 d3
    refine (H10.out _ _).mono ?_
    rintro e w5 ⟨rfl, hu5⟩
    dsimp only
    have HU5 := Lib.hid hu5
    obtain ⟨f0, f1, f2, f3, f4, f5, ff0, ff1, ff2, ff3, ff4, ff5⟩ := blk6f (hu5.heap HCM.out (fun x => x))
    obtain ⟨d0, d1, d2, d3, -, -, -, -⟩ := blk4f (hu5.heap HDM.out (fun x => x))
    have hC5 : C < w5.heap.size := (Array.getElem?_eq_some_iff.1 (hu5.heap HCM.out (fun x => x))).1
    have hD5 : Db < w5.heap.size := (Array.getElem?_eq_some_iff.1 (hu5.heap HDM.out (fun x => x))).1
    clear hu5
    go_wp2_with fail
    exact HN.out ⟨shadeW (pickI (shd) 5) { x with sc := x.sc.set k true }, c, steps + 1, 2, checks, root, sw, freed, i + 1⟩ _ _ _ _ _ _ _ _ _ _ _ _ _ _ _ _ _ _ _ _ _ _ _ _ _ _ _ _ _ _ _ _ _ _ _ _ _ _ _ _ _ _ _ _ _ _ _ _ _ _ _ _ _ _ _ _ _ _ _ _ _ _ _ _ _ _ _ _ _ _ _ _ _ _ _ _ _ _ _ _ _ _ _ _ _ _ _ _ _ _ _ _ _ _ _ _ _ _ _ _ _ _ _ _ _ _ _ _ _ _ _ _ _ _ _ _ _ _ _ _ _ _ _ _ _ _ _ _ _ _ _ _ _ _ _ _ _ _ _ _ _ _ _ _ _ _ _ _ _ _ _ _ _ _ _ _ _ _ _ _ _ _ _ _ _ _ _ _ _ _ _ _ _ _ _ _ _ _ _ _ _ _ _ _ _ _ _ _ _ _ _ _ _ _ _ _ _ _ _ _ _ _ _ _ _ _ _ _ _ _ _ _ _ (fin2 n g ⟨shadeW (pickI (shd) 5) { x with sc := x.sc.set k true }, c, steps + 1, 2, checks, root, sw, freed, i + 1⟩ HI.out HU.out HB0.out HBC.out HU3.out HUM.out HWM.out (.inl rfl) HU5.out HCM.out _) rfl
end Go.Proofs.Ytgfabhioliljmaa
