/- Read: parts of the laws: the reference's SameData. -/
import Derived.Test.YtnnjhafjcdjobaaLwB
namespace Go.Proofs.Ytnnjhafjcdjobaa
open Go.RowKit
set_option linter.unusedVariables false
set_option linter.unusedSimpArgs false

noncomputable def sameL (l l2 : List Dat) : Bool := @decide (l = l2) (Classical.propDecidable _)
theorem sameL_true {l l2 : List Dat} (h : l = l2) : sameL l l2 = true := @decide_eq_true _ (Classical.propDecidable _) h
theorem sameL_false {l l2 : List Dat} (h : l ≠ l2) : sameL l l2 = false := @decide_eq_false _ (Classical.propDecidable _) h
def SDATUM (x : Dat) : Prop := ∀ (y : Dat) (kx ky : Value) (w : World), Sees w All kx x.kids → Sees w All ky y.kids → Calls Try.prog 38 #[datV x kx, datV y ky] w fun e w' => e = .returned (.bool (sameB x y)) ∧ New w w'
set_option maxHeartbeats 4000000 in
set_option maxRecDepth 20000 in
theorem sdata_of (l : List Dat) (ih : ∀ d ∈ l, SDATUM d) : ∀ (l2 : List Dat) (kx ky : Value) (w : World), Sees w All kx l → Sees w All ky l2 → Calls Try.prog 17 #[kx, ky] w fun e w' => e = .returned (.bool (sameL l l2)) ∧ New w w' := by
  intro l2 kx ky w hx hy
  obtain ⟨es, rfl, hsx, hnx, hkx⟩ := hx.inv
  obtain ⟨es2, rfl, hsy, hny, hky⟩ := hy.inv
  obtain ⟨A, c, rfl⟩ := hsx.form
  obtain ⟨A2, c2, rfl⟩ := hsy.form
  have HSX := Lib.hid hsx
  have HSY := Lib.hid hsy
  have HKX := Lib.hid hkx
  have HKY := Lib.hid hky
  have HIH := Lib.hid ih
  have e1 : (es.length : Int) ≤ 2000000 := by omega
  have e2 : (0 : Int) ≤ es.length := by omega
  clear hx hy hsx hsy hkx hky ih hnx hny
  by_cases hl : es.length = es2.length
  · have q6 : ((es.length : Int) != es2.length) = false := by rw [hl]; simp
    have HL := Lib.hid hl
    clear hl
    go_enter Try.func17, Try.ntmps17
    go_wp2_with fail
    go_loopw [5] (fun i wr => New w wr ∧ ∃ j : Nat, j ≤ es.length ∧ i = .int .i64 j ∧ ∀ q (h1 : q < es.length) (h2 : q < es2.length), q < j → es[q].d = es2[q].d) (fun i _ => es.length - (intOf i).toNat)
    case atStart => exact ⟨Upd.refl (fun _ => False) w, 0, Nat.zero_le _, rfl, fun q _ _ h => by omega⟩
    case round =>
      obtain ⟨hn, j, hj, rfl, hq⟩ := hrel
      have HN := Lib.hid hn
      have HQQ := Lib.hid hq
      clear hn hq
      by_cases hjl : j < es.length
      · have hjl2 : j < es2.length := by rw [← HL.out]; exact hjl
        obtain ⟨g, o, cc, hA, hG, hlt, x0, x1, x2, x3, x4⟩ := (HSX.out.new HN.out).at j hjl
        obtain ⟨g2, o2, cc2, hA2, hG2, hlt2, y0, y1, y2, y3, y4⟩ := (HSY.out.new HN.out).at j hjl2
        simp only [Value.slice.injEq] at hA hA2
        obtain ⟨rfl, -, -⟩ := hA
        obtain ⟨rfl, -, -⟩ := hA2
        have j0 : (0 : Int) ≤ j := by omega
        have j1 : (j : Int) < es.length := by omega
        have j2 : (j : Int) < es2.length := by omega
        have j3 : IntKind.i64.wrap ((j : Int) + 1) = (j : Int) + 1 := IntWalk.i64_in _ (by omega)
        have hc0 := HIH.out _ (List.mem_map.2 ⟨es[j], List.getElem_mem hjl, rfl⟩) es2[j].d es[j].kv es2[j].kv
        have hc := fun w' (hh : New wr w') => hc0 w' ((HKX.out es[j] (List.getElem_mem hjl)).new (HN.out.trans hh)) ((HKY.out es2[j] (List.getElem_mem hjl2)).new (HN.out.trans hh))
        have HC := Lib.hid hc
        clear hc hc0
        have hI : ∀ b : Bool, (b = true ↔ es[j].d = es2[j].d) → sameB es[j].d es2[j].d = b := fun b hb => by
          cases b with
          | true => exact sameB_true (hb.1 rfl)
          | false => exact sameB_false (fun h => absurd (hb.2 h) (by simp))
        have HI := Lib.hid hI
        clear hI
        generalize hV : es[j] = X at *
        generalize hV2 : es2[j] = Y at *
        have HV := Lib.hid hV
        have HV2 := Lib.hid hV2
        generalize hB : sameB X.d Y.d = B at *
        clear hV hV2 hB
        unfold datV at HC
        go_wp2_with fail
        cases B with
        | true =>
          go_region_held3 (fun w' => w'.cell? ⟨g, o + j * 5, none⟩ = some (.int .u8 X.d.k) ∧ w'.cell? ⟨g, o + j * 5 + 1, none⟩ = some (.int .i64 X.d.n) ∧ w'.cell? ⟨g, o + j * 5 + 2, none⟩ = some (.string X.d.t) ∧ w'.cell? ⟨g, o + j * 5 + 3, none⟩ = some X.kv ∧ w'.cell? ⟨g, o + j * 5 + 4, none⟩ = some (.bool X.d.dot) ∧ w'.cell? ⟨g2, o2 + j * 5, none⟩ = some (.int .u8 Y.d.k) ∧ w'.cell? ⟨g2, o2 + j * 5 + 1, none⟩ = some (.int .i64 Y.d.n) ∧ w'.cell? ⟨g2, o2 + j * 5 + 2, none⟩ = some (.string Y.d.t) ∧ w'.cell? ⟨g2, o2 + j * 5 + 3, none⟩ = some Y.kv ∧ w'.cell? ⟨g2, o2 + j * 5 + 4, none⟩ = some (.bool Y.d.dot)) (simp [*])
            ((go_simp; go_at_call 38; refine (HC.out _ ((Upd.refl (fun _ => False) wr).drew)).mono ?_; rintro e w3 ⟨rfl, hu3⟩; have z0 := hu3.cell (w := wr.drew) x0 (fun x => x); have z1 := hu3.cell (w := wr.drew) x1 (fun x => x); have z2 := hu3.cell (w := wr.drew) x2 (fun x => x); have z3 := hu3.cell (w := wr.drew) x3 (fun x => x); have z4 := hu3.cell (w := wr.drew) x4 (fun x => x); have z5 := hu3.cell (w := wr.drew) y0 (fun x => x); have z6 := hu3.cell (w := wr.drew) y1 (fun x => x); have z7 := hu3.cell (w := wr.drew) y2 (fun x => x); have z8 := hu3.cell (w := wr.drew) y3 (fun x => x); have z9 := hu3.cell (w := wr.drew) y4 (fun x => x); have HU3 := Lib.hid hu3; clear hu3))
          go_wp2_with fail
          go_roundw
          case measure => simp [intOf]; omega
          case rel =>
            refine ⟨HN.out.trans (((Upd.refl (fun _ => False) wr).drew).trans HU3.out), j + 1, by omega, by simp, fun q h1 h2 hq => ?_⟩
            rcases Nat.lt_or_ge q j with h3 | h3
            · exact HQQ.out q h1 h2 h3
            · have : q = j := by omega
              subst this
              rw [HV.out, HV2.out]
              exact Classical.byContradiction fun hne => by have := HI.out false ⟨(fun h => absurd h (by simp)), fun h => absurd h hne⟩; cases this
        | false =>
          go_region_held3 (fun w' => w'.cell? ⟨g, o + j * 5, none⟩ = some (.int .u8 X.d.k) ∧ w'.cell? ⟨g, o + j * 5 + 1, none⟩ = some (.int .i64 X.d.n) ∧ w'.cell? ⟨g, o + j * 5 + 2, none⟩ = some (.string X.d.t) ∧ w'.cell? ⟨g, o + j * 5 + 3, none⟩ = some X.kv ∧ w'.cell? ⟨g, o + j * 5 + 4, none⟩ = some (.bool X.d.dot) ∧ w'.cell? ⟨g2, o2 + j * 5, none⟩ = some (.int .u8 Y.d.k) ∧ w'.cell? ⟨g2, o2 + j * 5 + 1, none⟩ = some (.int .i64 Y.d.n) ∧ w'.cell? ⟨g2, o2 + j * 5 + 2, none⟩ = some (.string Y.d.t) ∧ w'.cell? ⟨g2, o2 + j * 5 + 3, none⟩ = some Y.kv ∧ w'.cell? ⟨g2, o2 + j * 5 + 4, none⟩ = some (.bool Y.d.dot)) (simp [*])
            ((go_simp; go_at_call 38; refine (HC.out _ ((Upd.refl (fun _ => False) wr).drew)).mono ?_; rintro e w3 ⟨rfl, hu3⟩; have z0 := hu3.cell (w := wr.drew) x0 (fun x => x); have z1 := hu3.cell (w := wr.drew) x1 (fun x => x); have z2 := hu3.cell (w := wr.drew) x2 (fun x => x); have z3 := hu3.cell (w := wr.drew) x3 (fun x => x); have z4 := hu3.cell (w := wr.drew) x4 (fun x => x); have z5 := hu3.cell (w := wr.drew) y0 (fun x => x); have z6 := hu3.cell (w := wr.drew) y1 (fun x => x); have z7 := hu3.cell (w := wr.drew) y2 (fun x => x); have z8 := hu3.cell (w := wr.drew) y3 (fun x => x); have z9 := hu3.cell (w := wr.drew) y4 (fun x => x); have HU3 := Lib.hid hu3; clear hu3))
          go_wp2_with fail
          go_ret
          refine ⟨?_, HN.out.trans (((Upd.refl (fun _ => False) wr).drew).trans HU3.out)⟩
          have hsf : sameL (es.map El.d) (es2.map El.d) = false := sameL_false fun h => by
            have h1 := congrArg (fun l => l[j]?) h
            simp only [List.getElem?_map, List.getElem?_eq_getElem hjl, List.getElem?_eq_getElem hjl2, Option.map_some, Option.some.injEq, HV.out, HV2.out] at h1
            have := HI.out true ⟨fun _ => h1, fun _ => rfl⟩
            cases this
          rw [hsf]; rfl
      · have j1 : ¬ (j : Int) < es.length := by omega
        go_wp2_with fail
        go_ret
        refine ⟨?_, HN.out⟩
        rw [sameL_true (map_eq_of HL.out fun i h1 h2 => HQQ.out i h1 h2 (by omega))]; rfl
  · have q6 : ((es.length : Int) != es2.length) = true := by simp; omega
    have hf : sameL (es.map El.d) (es2.map El.d) = false := sameL_false fun h => hl (by simpa using congrArg List.length h)
    rw [hf]
    clear hl hf
    go_enter Try.func17, Try.ntmps17
    go_wp2_with fail
    go_ret
    exact ⟨rfl, Upd.refl (fun _ => False) w⟩
set_option maxHeartbeats 4000000 in
set_option maxRecDepth 20000 in
theorem sdatum_calls : ∀ x, SDATUM x := by
  intro x
  induction x using Dat.ind with
  | h k n t kids dot ih =>
    rintro ⟨k', n', t', kids', dot'⟩ kx ky w hx hy
    simp only [Dat.kids] at hx hy
    have hsd := sdata_of kids ih kids' kx ky
    obtain ⟨es, hes, hsx, hnx, hkx⟩ := hx.inv
    obtain ⟨es2, hes2, hsy, hny, hky⟩ := hy.inv
    obtain ⟨A, c, rfl⟩ := hsx.form
    obtain ⟨A2, c2, rfl⟩ := hsy.form
    clear hes hes2 hsx hsy hnx hny hkx hky ih
    generalize es.length = N at *
    generalize es2.length = N2 at *
    unfold datV
    simp only [Dat.k, Dat.n, Dat.t, Dat.dot]
    have h1 := halloc (heap_alloc_new w (.cells #[.int .u8 k, .int .i64 n, .string t, .slice A N c, .bool dot] 58)) (.cells #[.int .u8 k', .int .i64 n', .string t', .slice A2 N2 c2, .bool dot'] 58)
    have h2 := heap_alloc_new (w.alloc (.cells #[.int .u8 k, .int .i64 n, .string t, .slice A N c, .bool dot] 58)) (.cells #[.int .u8 k', .int .i64 n', .string t', .slice A2 N2 c2, .bool dot'] 58)
    have hup := ((Upd.refl (fun _ => False) w).alloc (.cells #[.int .u8 k, .int .i64 n, .string t, .slice A N c, .bool dot] 58)).alloc (.cells #[.int .u8 k', .int .i64 n', .string t', .slice A2 N2 c2, .bool dot'] 58)
    simp only [World.size_alloc] at h2
    have HSD := Lib.hid (hsd _ (hx.new hup) (hy.new hup))
    have HU := Lib.hid hup
    obtain ⟨⟨a0, a1, a2, a3, a4⟩, af⟩ := blk5 h1
    obtain ⟨⟨b0, b1, b2, b3, b4⟩, bf⟩ := blk5 h2
    clear hx hy h1 h2 hup hsd
    by_cases hc : k = k' ∧ n = n' ∧ t = t' ∧ dot = dot'
    · obtain ⟨rfl, rfl, rfl, rfl⟩ := hc
      have hq : sameB (.mk k n t kids dot) (.mk k n t kids' dot) = sameL kids kids' := by
        by_cases hk : kids = kids'
        · rw [sameL_true hk, sameB_true (by rw [hk])]
        · rw [sameL_false hk, sameB_false (fun h => hk (by simp only [Dat.mk.injEq] at h; exact h.2.2.2.1))]
      rw [hq]
      clear hq
      generalize sameL kids kids' = R at *
      go_enter Try.func38, Try.ntmps38
      go_wp2_with fail
      refine HSD.out.mono ?_
      rintro e w3 ⟨rfl, hu3⟩
      have HU3 := Lib.hid (HU.out.trans hu3)
      clear hu3
      go_wp2_with fail
      go_ret
      exact ⟨rfl, HU3.out⟩
    · have hf : sameB (.mk k n t kids dot) (.mk k' n' t' kids' dot') = false := sameB_false fun h => hc (by
        simp only [Dat.mk.injEq] at h
        exact ⟨h.1, h.2.1, h.2.2.1, h.2.2.2.2⟩)
      rw [hf]
      clear HSD
      go_enter Try.func38, Try.ntmps38
      by_cases q1 : k = k'
      · subst q1
        by_cases q2 : n = n'
        · subst q2
          by_cases q3 : t = t'
          · subst q3
            have q4 : ¬ dot = dot' := fun h => hc ⟨rfl, rfl, rfl, h⟩
            clear hc hf
            cases dot <;> cases dot' <;> first | exact absurd rfl q4 | (clear q4; go_wp2_with fail; go_ret; exact ⟨rfl, HU.out⟩)
          · have q6 : (t.toList == t'.toList) = false := by simpa using fun h => q3 (toList_inj h)
            clear hc hf q3
            go_wp2_with fail
            go_ret
            exact ⟨rfl, HU.out⟩
        · have q6 : (n == n') = false := by simpa using q2
          clear hc hf q2
          go_wp2_with fail
          go_ret
          exact ⟨rfl, HU.out⟩
      · have q6 : (k == k') = false := by simpa using q1
        clear hc hf q1
        go_wp2_with fail
        go_ret
        exact ⟨rfl, HU.out⟩
/-- SameData, of lists that are read. -/
theorem sdata_calls (l l2 : List Dat) (kx ky : Value) (w : World) (hx : Sees w All kx l) (hy : Sees w All ky l2) : Calls Try.prog 17 #[kx, ky] w fun e w' => e = .returned (.bool (sameL l l2)) ∧ New w w' :=
  sdata_of l (fun d _ => sdatum_calls d) l2 kx ky w hx hy
end Go.Proofs.Ytnnjhafjcdjobaa
