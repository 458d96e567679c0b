/- Read: Same. -/
import Derived.Test.YtnnjhafjcdjobaaWrB
namespace Go.Proofs.Ytnnjhafjcdjobaa
open Go.RowKit
set_option linter.unusedVariables false
set_option linter.unusedSimpArgs false

noncomputable def sameB (x y : Dat) : Bool := @decide (x = y) (Classical.propDecidable _)
theorem sameB_true {x y : Dat} (h : x = y) : sameB x y = true := @decide_eq_true _ (Classical.propDecidable _) h
theorem sameB_false {x y : Dat} (h : x ≠ y) : sameB x y = false := @decide_eq_false _ (Classical.propDecidable _) h
theorem toList_inj {s t : ByteArray} (h : s.toList = t.toList) : s = t := by
  rw [ByteArray.toList_eq, ByteArray.toList_eq] at h
  cases s; cases t
  simpa using h
theorem map_eq_of {es es2 : List El} (hl : es.length = es2.length) (h : ∀ i (h1 : i < es.length) (h2 : i < es2.length), es[i].d = es2[i].d) : es.map El.d = es2.map El.d := by
  apply List.ext_getElem
  · simpa using hl
  · intro i h1 h2; simp only [List.getElem_map]; exact h i (by simpa using h1) (by simpa using h2)
set_option maxHeartbeats 4000000 in
set_option maxRecDepth 20000 in
theorem same_calls : ∀ (x y : Dat) (G : Nat → Prop) (kx ky : Value) (w : World), Sees w G kx x.kids → Sees w G ky y.kids →
    Calls Try.prog 24 #[datV x kx, datV y ky] w fun e w' => e = .returned (.bool (sameB x y)) ∧ New w w' := by
  intro x
  induction x using Dat.ind with
  | h k n t kids dot ih =>
    rintro ⟨k', n', t', kids', dot'⟩ G kx ky w hx hy
    simp only [Dat.kids] at hx hy
    obtain ⟨es, rfl, hsx, hnx, hkx⟩ := hx.inv
    obtain ⟨es2, rfl, hsy, hny, hky⟩ := hy.inv
    obtain ⟨A, c, rfl⟩ := hsx.form
    obtain ⟨A2, c2, rfl⟩ := hsy.form
    unfold datV
    simp only [Dat.k, Dat.n, Dat.t, Dat.dot]
    have h1 := halloc (heap_alloc_new w (.cells #[.int .u8 k, .int .i64 n, .string t, .slice A es.length c, .bool dot] 58)) (.cells #[.int .u8 k', .int .i64 n', .string t', .slice A2 es2.length c2, .bool dot'] 58)
    have h2 := heap_alloc_new (w.alloc (.cells #[.int .u8 k, .int .i64 n, .string t, .slice A es.length c, .bool dot] 58)) (.cells #[.int .u8 k', .int .i64 n', .string t', .slice A2 es2.length c2, .bool dot'] 58)
    have hup := ((Upd.refl (fun _ => False) w).alloc (.cells #[.int .u8 k, .int .i64 n, .string t, .slice A es.length c, .bool dot] 58)).alloc (.cells #[.int .u8 k', .int .i64 n', .string t', .slice A2 es2.length c2, .bool dot'] 58)
    simp only [World.size_alloc] at h2
    have HSX := Lib.hid hsx
    have HSY := Lib.hid hsy
    have HKX := Lib.hid hkx
    have HKY := Lib.hid hky
    have HIH := Lib.hid ih
    have H1 := Lib.hid h1
    have H2 := Lib.hid h2
    have HU := Lib.hid hup
    have e1 : (es.length : Int) ≤ 2000000 := by omega
    have e2 : (0 : Int) ≤ es.length := by omega
    obtain ⟨⟨a0, a1, a2, a3, a4⟩, af⟩ := blk5 h1
    obtain ⟨⟨b0, b1, b2, b3, b4⟩, bf⟩ := blk5 h2
    clear hx hy ih hsx hsy hkx hky h1 h2 hup hnx hny
    by_cases hc : k = k' ∧ n = n' ∧ t = t' ∧ dot = dot' ∧ es.length = es2.length
    · obtain ⟨rfl, rfl, rfl, rfl, hl⟩ := hc
      have hq : ∀ b : Bool, (b = true ↔ es.map El.d = es2.map El.d) → sameB (.mk k n t (es.map El.d) dot) (.mk k n t (es2.map El.d) dot) = b := by
        intro b hb
        cases b with
        | true => exact sameB_true (by rw [hb.1 rfl])
        | false => exact sameB_false (by intro h; simp only [Dat.mk.injEq] at h; exact absurd (hb.2 h.2.2.2.1) (by simp))
      have HQ := Lib.hid hq
      clear hq
      have q6 : ((es.length : Int) != es2.length) = false := by rw [hl]; simp
      generalize hR : sameB (.mk k n t (es.map El.d) dot) (.mk k n t (es2.map El.d) dot) = R at *
      clear hR
      have HL := Lib.hid hl
      clear hl
      go_enter Try.func24, Try.ntmps24
      go_wp2_with fail
      generalize (w.alloc (.cells #[.int .u8 k, .int .i64 n, .string t, .slice A es.length c, .bool dot] 58)).alloc (.cells #[.int .u8 k, .int .i64 n, .string t, .slice A2 es2.length c2, .bool dot] 58) = W at *
      clear a0 a1 a2 a3 a4 b0 b1 b2 b3 b4 af bf
      go_loopw [44] (fun i wr => New W wr ∧ ∃ j : Nat, j ≤ es.length ∧ i = .int .i64 j ∧ ∀ q (h1 : q < es.length) (h2 : q < es2.length), q < j → es[q].d = es2[q].d) (fun i _ => es.length - (intOf i).toNat)
      case atStart => exact ⟨Upd.refl (fun _ => False) W, 0, Nat.zero_le _, rfl, fun q _ _ h => by omega⟩
      case round =>
        obtain ⟨hn, j, hj, rfl, hq⟩ := hrel
        have HN := Lib.hid hn
        have HQQ := Lib.hid hq
        obtain ⟨⟨a0, a1, a2, a3, a4⟩, af⟩ := blk5 (hn.heap H1.out (fun x => x))
        obtain ⟨⟨b0, b1, b2, b3, b4⟩, bf⟩ := blk5 (hn.heap H2.out (fun x => x))
        clear hn hq
        by_cases hjl : j < es.length
        · have hjl2 : j < es2.length := by rw [← HL.out]; exact hjl
          obtain ⟨g, o, cc, hA, hG, hlt, x0, x1, x2, x3, x4⟩ := ((HSX.out.new HU.out).new HN.out).at j hjl
          obtain ⟨g2, o2, cc2, hA2, hG2, hlt2, y0, y1, y2, y3, y4⟩ := ((HSY.out.new HU.out).new HN.out).at j hjl2
          simp only [Value.slice.injEq] at hA hA2
          obtain ⟨rfl, -, -⟩ := hA
          obtain ⟨rfl, -, -⟩ := hA2
          have j0 : (0 : Int) ≤ j := by omega
          have j1 : (j : Int) < es.length := by omega
          have j2 : (j : Int) < es2.length := by omega
          have j3 : IntKind.i64.wrap ((j : Int) + 1) = (j : Int) + 1 := IntWalk.i64_in _ (by omega)
          have hc0 := HIH.out _ (List.mem_map.2 ⟨es[j], List.getElem_mem hjl, rfl⟩) es2[j].d G es[j].kv es2[j].kv
          have hc := fun w' (hh : New wr w') => hc0 w' (((HKX.out es[j] (List.getElem_mem hjl)).new HU.out).new (HN.out.trans hh)) (((HKY.out es2[j] (List.getElem_mem hjl2)).new HU.out).new (HN.out.trans hh))
          have HC := Lib.hid hc
          clear hc hc0
          have hI : ∀ b : Bool, (b = true ↔ es[j].d = es2[j].d) → sameB es[j].d es2[j].d = b := fun b hb => by
            cases b with
            | true => exact sameB_true (hb.1 rfl)
            | false => exact sameB_false (fun h => absurd (hb.2 h) (by simp))
          have HI := Lib.hid hI
          clear hI
          generalize hV : es[j] = X at *
          generalize hV2 : es2[j] = Y at *
          have HV := Lib.hid hV
          have HV2 := Lib.hid hV2
          generalize hB : sameB X.d Y.d = B at *
          clear hV hV2 hB
          unfold datV at HC
          go_wp2_with fail
          cases B with
          | true =>
            go_region_held3 (fun w' => w'.cell? ⟨w.heap.size, 3, none⟩ = some (.slice (some ⟨g, o, none⟩) es.length c) ∧ w'.cell? ⟨w.heap.size + 1, 3, none⟩ = some (.slice (some ⟨g2, o2, none⟩) es2.length c2) ∧
              w'.cell? ⟨g, o + j * 5, none⟩ = some (.int .u8 X.d.k) ∧ w'.cell? ⟨g, o + j * 5 + 1, none⟩ = some (.int .i64 X.d.n) ∧ w'.cell? ⟨g, o + j * 5 + 2, none⟩ = some (.string X.d.t) ∧ w'.cell? ⟨g, o + j * 5 + 3, none⟩ = some X.kv ∧ w'.cell? ⟨g, o + j * 5 + 4, none⟩ = some (.bool X.d.dot) ∧
              w'.cell? ⟨g2, o2 + j * 5, none⟩ = some (.int .u8 Y.d.k) ∧ w'.cell? ⟨g2, o2 + j * 5 + 1, none⟩ = some (.int .i64 Y.d.n) ∧ w'.cell? ⟨g2, o2 + j * 5 + 2, none⟩ = some (.string Y.d.t) ∧ w'.cell? ⟨g2, o2 + j * 5 + 3, none⟩ = some Y.kv ∧ w'.cell? ⟨g2, o2 + j * 5 + 4, none⟩ = some (.bool Y.d.dot)) (simp [*])
              ((go_simp; go_at_call 24; refine (HC.out _ ((Upd.refl (fun _ => False) wr).drew)).mono ?_; rintro e w3 ⟨rfl, hu3⟩; have z0 := hu3.cell (w := wr.drew) a3 (fun x => x); have z1 := hu3.cell (w := wr.drew) b3 (fun x => x); have z2 := hu3.cell (w := wr.drew) x0 (fun x => x); have z3 := hu3.cell (w := wr.drew) x1 (fun x => x); have z4 := hu3.cell (w := wr.drew) x2 (fun x => x); have z5 := hu3.cell (w := wr.drew) x3 (fun x => x); have z6 := hu3.cell (w := wr.drew) x4 (fun x => x); have z7 := hu3.cell (w := wr.drew) y0 (fun x => x); have z8 := hu3.cell (w := wr.drew) y1 (fun x => x); have z9 := hu3.cell (w := wr.drew) y2 (fun x => x); have z10 := hu3.cell (w := wr.drew) y3 (fun x => x); have z11 := hu3.cell (w := wr.drew) y4 (fun x => x); have HU3 := Lib.hid hu3; clear hu3))
            go_wp2_with fail
            go_roundw
            case measure => simp [intOf]; omega
            case rel =>
              refine ⟨HN.out.trans (((Upd.refl (fun _ => False) wr).drew).trans HU3.out), j + 1, by omega, by simp, fun q h1 h2 hq => ?_⟩
              rcases Nat.lt_or_ge q j with h3 | h3
              · exact HQQ.out q h1 h2 h3
              · have : q = j := by omega
                subst this
                rw [HV.out, HV2.out]
                exact Classical.byContradiction fun hne => by have := HI.out false ⟨(fun h => absurd h (by simp)), fun h => absurd h hne⟩; cases this
          | false =>
            go_region_held3 (fun w' => w'.cell? ⟨w.heap.size, 3, none⟩ = some (.slice (some ⟨g, o, none⟩) es.length c) ∧ w'.cell? ⟨w.heap.size + 1, 3, none⟩ = some (.slice (some ⟨g2, o2, none⟩) es2.length c2) ∧
              w'.cell? ⟨g, o + j * 5, none⟩ = some (.int .u8 X.d.k) ∧ w'.cell? ⟨g, o + j * 5 + 1, none⟩ = some (.int .i64 X.d.n) ∧ w'.cell? ⟨g, o + j * 5 + 2, none⟩ = some (.string X.d.t) ∧ w'.cell? ⟨g, o + j * 5 + 3, none⟩ = some X.kv ∧ w'.cell? ⟨g, o + j * 5 + 4, none⟩ = some (.bool X.d.dot) ∧
              w'.cell? ⟨g2, o2 + j * 5, none⟩ = some (.int .u8 Y.d.k) ∧ w'.cell? ⟨g2, o2 + j * 5 + 1, none⟩ = some (.int .i64 Y.d.n) ∧ w'.cell? ⟨g2, o2 + j * 5 + 2, none⟩ = some (.string Y.d.t) ∧ w'.cell? ⟨g2, o2 + j * 5 + 3, none⟩ = some Y.kv ∧ w'.cell? ⟨g2, o2 + j * 5 + 4, none⟩ = some (.bool Y.d.dot)) (simp [*])
              ((go_simp; go_at_call 24; refine (HC.out _ ((Upd.refl (fun _ => False) wr).drew)).mono ?_; rintro e w3 ⟨rfl, hu3⟩; have z0 := hu3.cell (w := wr.drew) a3 (fun x => x); have z1 := hu3.cell (w := wr.drew) b3 (fun x => x); have z2 := hu3.cell (w := wr.drew) x0 (fun x => x); have z3 := hu3.cell (w := wr.drew) x1 (fun x => x); have z4 := hu3.cell (w := wr.drew) x2 (fun x => x); have z5 := hu3.cell (w := wr.drew) x3 (fun x => x); have z6 := hu3.cell (w := wr.drew) x4 (fun x => x); have z7 := hu3.cell (w := wr.drew) y0 (fun x => x); have z8 := hu3.cell (w := wr.drew) y1 (fun x => x); have z9 := hu3.cell (w := wr.drew) y2 (fun x => x); have z10 := hu3.cell (w := wr.drew) y3 (fun x => x); have z11 := hu3.cell (w := wr.drew) y4 (fun x => x); have HU3 := Lib.hid hu3; clear hu3))
            go_wp2_with fail
            go_ret
            have hR : R = false := HQ.out false ⟨(fun h => absurd h (by simp)), fun h => by
              have h1 := congrArg (fun l => l[j]?) h
              simp only [List.getElem?_map, List.getElem?_eq_getElem hjl, List.getElem?_eq_getElem hjl2, Option.map_some, Option.some.injEq, HV.out, HV2.out] at h1
              have := HI.out true ⟨fun _ => h1, fun _ => rfl⟩
              cases this⟩
            subst hR
            exact ⟨rfl, HU.out.trans (HN.out.trans (((Upd.refl (fun _ => False) wr).drew).trans HU3.out))⟩
        · have j1 : ¬ (j : Int) < es.length := by omega
          go_wp2_with fail
          go_ret
          have hR : R = true := HQ.out true ⟨fun _ => map_eq_of HL.out fun i h1 h2 => HQQ.out i h1 h2 (by omega), fun _ => rfl⟩
          subst hR
          exact ⟨rfl, HU.out.trans HN.out⟩
    · have hf : sameB (.mk k n t (es.map El.d) dot) (.mk k' n' t' (es2.map El.d) dot') = false := sameB_false fun h => hc (by
        simp only [Dat.mk.injEq] at h
        exact ⟨h.1, h.2.1, h.2.2.1, h.2.2.2.2, by simpa using congrArg List.length h.2.2.2.1⟩)
      rw [hf]
      go_enter Try.func24, Try.ntmps24
      by_cases q1 : k = k'
      · subst q1
        by_cases q2 : n = n'
        · subst q2
          by_cases q3 : t = t'
          · subst q3
            by_cases q4 : dot = dot'
            · subst q4
              have q5 : ¬ (es.length = es2.length) := fun h => hc ⟨rfl, rfl, rfl, rfl, h⟩
              have q6 : ((es.length : Int) != es2.length) = true := by simp; omega
              clear hc hf q5
              go_wp2_with fail
              go_ret
              exact ⟨rfl, HU.out⟩
            · clear hc hf
              cases dot <;> cases dot' <;> first | exact absurd rfl q4 | (clear q4; go_wp2_with fail; go_ret; exact ⟨rfl, HU.out⟩)
          · have q6 : (t.toList == t'.toList) = false := by simpa using fun h => q3 (toList_inj h)
            clear hc hf q3
            go_wp2_with fail
            go_ret
            exact ⟨rfl, HU.out⟩
        · have q6 : (n != n') = true := by simpa using q2
          clear hc hf q2
          go_wp2_with fail
          go_ret
          exact ⟨rfl, HU.out⟩
      · have q6 : (k != k') = true := by simpa using q1
        clear hc hf q1
        go_wp2_with fail
        go_ret
        exact ⟨rfl, HU.out⟩
end Go.Proofs.Ytnnjhafjcdjobaa
