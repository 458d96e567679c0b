/- Read: the law ReadWrites, walked. -/
import Derived.Test.YtnnjhafjcdjobaaWwF
namespace Go.Proofs.Ytnnjhafjcdjobaa
open Go.RowKit
set_option linter.unusedVariables false
set_option linter.unusedSimpArgs false

set_option maxHeartbeats 4000000 in
set_option maxRecDepth 20000 in
theorem readwrites_much (l : List Dat) (v : Value) (w : World) (hv : SeesB w v l) (h : leftL l 200000 0 < 0) : Calls Try.prog 5 #[v] w fun e w' => e = .returned (.bool true) ∧ New w w' := by
  have HMU := Lib.hid (fun w' (hn : New w w') => much_calls l v w' (hv.new hn))
  have hd : decide (leftL l 200000 0 < 0) = true := decide_eq_true h
  rw [hd] at HMU
  clear h hd hv
  go_enter Try.func5, Try.ntmps5
  go_wp2_with fail
  refine (works_calls _).mono ?_
  rintro e w1 ⟨rfl, hu1⟩
  have HU1 := Lib.hid hu1
  clear hu1
  go_wp2_with fail
  refine (HMU.out _ HU1.out).mono ?_
  rintro e w2 ⟨rfl, hu2⟩
  have HU2 := Lib.hid (HU1.out.trans hu2)
  clear hu2
  go_wp2_with fail
  go_ret
  exact ⟨rfl, HU2.out⟩
set_option maxHeartbeats 8000000 in
set_option maxRecDepth 20000 in
theorem readwrites_calls (l : List Dat) (v : Value) (w : World) (hv : SeesB w v l) (h : ¬ leftL l 200000 0 < 0) : Calls Try.prog 5 #[v] w fun e w' => e = .returned (.bool true) ∧ New w w' := by
  obtain ⟨m1, m2, m3, m4⟩ := much_not h
  have HMU := Lib.hid (fun w' (hn : New w w') => much_calls l v w' (hv.new hn))
  have hd : decide (leftL l 200000 0 < 0) = false := decide_eq_false h
  rw [hd] at HMU
  have hsees := hv.sees (by omega)
  obtain ⟨es2, hes2, hsy, hny, hky⟩ := hsees.inv
  obtain ⟨A2, c2, rfl⟩ := hsy.form
  subst hes2
  generalize hLL : es2.map El.d = l at *
  have hlen : l.length = es2.length := by rw [← hLL]; simp
  have HLN := Lib.hid hlen
  have HDD := Lib.hid hLL
  have HSY := Lib.hid hsy
  have HKY := Lib.hid hky
  have HV := Lib.hid (fun w' (hn : New w w') => hsees.new hn)
  have HWEE := Lib.hid m2
  have HHG := Lib.hid (show hgtL l ≤ 60000 by omega)
  have HMN := Lib.hid (show manyL l ≤ 1000000 by omega)
  have HWG := Lib.hid (show wgtL l ≤ 200000 by omega)
  have hlx := fun w' (hn : New w w') => lentdata_calls l _ w' (hsees.new hn)
  rw [hlen] at hlx
  have HLX := Lib.hid hlx
  have n1 : (es2.length : Int) ≤ 2000000 := by omega
  have n0 : (0 : Int) ≤ es2.length := by omega
  clear m1 m2 m3 m4 h hd hv hsees hLL hlen hlx hsy hky hny
  go_enter Try.func5, Try.ntmps5
  go_wp2_with fail
  refine (works_calls _).mono ?_
  rintro e w1 ⟨rfl, hu1⟩
  have HU1 := Lib.hid hu1
  clear hu1
  go_wp2_with fail
  refine (HMU.out _ HU1.out).mono ?_
  rintro e w2 ⟨rfl, hu2⟩
  have HU2 := Lib.hid (HU1.out.trans hu2)
  clear hu2
  go_wp2_with fail
  refine (Rwrite_calls l _ _ (HV.out _ HU2.out) HWEE.out HHG.out HWG.out).mono ?_
  rintro e w3 ⟨rfl, hu3⟩
  have HU3 := Lib.hid (HU2.out.trans hu3)
  clear hu3
  generalize hWT : writeT l = T
  generalize hWE : writeE l = E
  have HWT := Lib.hid hWT
  have HWE := Lib.hid hWE
  clear hWT hWE
  go_wp2_with fail
  refine (HLX.out _ HU3.out).mono ?_
  rintro e w4 ⟨A, c, rfl, hu4, hl4⟩
  have HU4 := Lib.hid (HU3.out.trans hu4)
  have HL4 := Lib.hid hl4
  clear hu4 hl4
  go_wp2_with fail
  refine (write_all HL4.out.sees HWEE.out HHG.out HMN.out).mono ?_
  rintro e w5 ⟨rfl, hu5⟩
  have HU5 := Lib.hid (HU4.out.trans hu5)
  have HL5 := Lib.hid (HL4.out.new hu5)
  clear hu5 HL4
  rw [HWT.out, HWE.out]
  go_wp2_with fail
  refine (write_all HL5.out.sees HWEE.out HHG.out HMN.out).mono ?_
  rintro e w6 ⟨rfl, hu6⟩
  have HU6 := Lib.hid (HU5.out.trans hu6)
  have HL6 := Lib.hid (HL5.out.new hu6)
  clear hu6 HL5
  rw [HWT.out, HWE.out]
  go_wp2_with fail
  have hlent := HL6.out
  obtain ⟨g, cc, es, hA, hes, hG, hlt, hcc, hcells, hn, hk⟩ := hlent.inv
  simp only [Value.slice.injEq] at hA
  obtain ⟨rfl, hlen2, rfl⟩ := hA
  have HLN2 := Lib.hid hlen2
  have HES := Lib.hid hes
  have HCE := Lib.hid hcells
  have HK := Lib.hid hk
  clear hlent hlen2 hes hG hcells hk hcc hn
  go_loopw [12] (fun i wr => New w6 wr ∧ ∃ j : Nat, j ≤ es2.length ∧ i = .int .i64 j) (fun i _ => es2.length - (intOf i).toNat)
  case atStart => exact ⟨Upd.refl (fun _ => False) w6, 0, Nat.zero_le _, rfl⟩
  case round =>
    obtain ⟨hn, j, hj, rfl⟩ := hrel
    have HN := Lib.hid hn
    clear hn
    by_cases hjl : j < es2.length
    · have hpos : 0 < es2.length := by omega
      obtain ⟨nx, hnl, hrem⟩ : ∃ nx : Nat, nx < es2.length ∧ ((j : Int) + 1).tmod es2.length = (nx : Int) := ⟨(j + 1) % es2.length, Nat.mod_lt _ hpos, by rw [Int.tmod_eq_emod_of_nonneg (by omega)]; rfl⟩
      have j0 : (0 : Int) ≤ j := by omega
      have j1 : (j : Int) < es2.length := by omega
      have j3 : IntKind.i64.wrap ((j : Int) + 1) = (j : Int) + 1 := IntWalk.i64_in _ (by omega)
      have k0 : (0 : Int) ≤ nx := by omega
      have k1 : (nx : Int) < es2.length := by omega
      have k3 : IntKind.i64.wrap (nx : Int) = nx := IntWalk.i64_in _ (by omega)
      have nz : ¬ (es2.length : Int) = 0 := by omega
      have nz2 : es2.length ≠ 0 := by omega
      clear hpos
      have hjl4 : j < es.length := by rw [← HLN2.out]; exact hjl
      have hnl4 : nx < es.length := by rw [← HLN2.out]; exact hnl
      have hcw : ∀ q u, (elCells (es ++ [m77]))[q]? = some u → wr.cell? ⟨g, q, none⟩ = some u := fun q u hq => HN.out.cell (HCE.out q u hq) (fun x => x)
      obtain ⟨x0, x1, x2, x3, x4⟩ := lent_at hcw j hjl4
      obtain ⟨z0, z1, z2, z3, z4⟩ := lent_at hcw nx hnl4
      obtain ⟨g2, o2, cc2, hA2, -, hlt2, y0, y1, y2, y3, y4⟩ := (HSY.out.new (HU6.out.trans HN.out)).at j hjl
      simp only [Value.slice.injEq] at hA2
      obtain ⟨rfl, -, -⟩ := hA2
      obtain ⟨g3, o3, cc3, hA3, -, -, v0, v1, v2, v3, v4⟩ := (HSY.out.new (HU6.out.trans HN.out)).at nx hnl
      simp only [Value.slice.injEq, Option.some.injEq, Addr.mk.injEq, and_true, true_and] at hA3
      obtain ⟨⟨rfl, rfl⟩, -⟩ := hA3
      have hd : ∀ q (h1 : q < es2.length) (h2 : q < es.length), es2[q].d = es[q].d := fun q h1 h2 => by
        have h3 := congrArg (fun l => l[q]?) (HDD.out.trans HES.out)
        simp only [List.getElem?_map, List.getElem?_eq_getElem h1, List.getElem?_eq_getElem h2, Option.map_some, Option.some.injEq] at h3
        exact h3
      have hdj := hd j hjl hjl4
      have hdn := hd nx hnl hnl4
      rw [hdj] at y0 y1 y2 y4
      rw [hdn] at v0 v1 v2 v4
      have kx := fun w' (hh : New wr w') => ((HK.out es[j] (List.getElem_mem hjl4)).new (HN.out.trans hh)).sees
      have kz := fun w' (hh : New wr w') => ((HK.out es[nx] (List.getElem_mem hnl4)).new (HN.out.trans hh)).sees
      have ky := fun w' (hh : New wr w') => (HKY.out es2[j] (List.getElem_mem hjl)).new ((HU6.out.trans HN.out).trans hh)
      have kv := fun w' (hh : New wr w') => (HKY.out es2[nx] (List.getElem_mem hnl)).new ((HU6.out.trans HN.out).trans hh)
      rw [hdj] at ky
      rw [hdn] at kv
      have hb1 : sameB es[j].d es[j].d = true := sameB_true rfl
      have hc1 := fun w' (hh : New wr w') => same_calls es[j].d es[j].d All es[j].kv es2[j].kv w' (kx w' hh) (ky w' hh)
      have hc2 := fun w' (hh : New wr w') => same_calls es[j].d es[nx].d All es[j].kv es[nx].kv w' (kx w' hh) (kz w' hh)
      have hc3 := fun w' (hh : New wr w') => Rsame_calls es[j].d es[nx].d All es2[j].kv es2[nx].kv w' (ky w' hh) (kv w' hh)
      simp only [hb1] at hc1
      have HC1 := Lib.hid hc1
      have HC2 := Lib.hid hc2
      have HC3 := Lib.hid hc3
      clear hc1 hc2 hc3 hb1 kx kz ky kv hd hdj hdn hcw
      generalize hV : es[j] = X at *
      generalize hV2 : es2[j] = Y at *
      generalize hV3 : es[nx] = Z at *
      generalize hV4 : es2[nx] = V at *
      clear hV hV2 hV3 hV4
      generalize sameB X.d Z.d = B at *
      unfold datV at HC1 HC2 HC3
      go_wp2_with fail
      go_region_held3 (fun w' => w'.cell? ⟨g, j * 5, none⟩ = some (.int .u8 X.d.k) ∧ w'.cell? ⟨g, j * 5 + 1, none⟩ = some (.int .i64 X.d.n) ∧ w'.cell? ⟨g, j * 5 + 2, none⟩ = some (.string X.d.t) ∧ w'.cell? ⟨g, j * 5 + 3, none⟩ = some X.kv ∧ w'.cell? ⟨g, j * 5 + 4, none⟩ = some (.bool X.d.dot) ∧ w'.cell? ⟨g2, o2 + j * 5, none⟩ = some (.int .u8 X.d.k) ∧ w'.cell? ⟨g2, o2 + j * 5 + 1, none⟩ = some (.int .i64 X.d.n) ∧ w'.cell? ⟨g2, o2 + j * 5 + 2, none⟩ = some (.string X.d.t) ∧ w'.cell? ⟨g2, o2 + j * 5 + 3, none⟩ = some Y.kv ∧ w'.cell? ⟨g2, o2 + j * 5 + 4, none⟩ = some (.bool X.d.dot)) (simp [*])
        ((go_simp; go_at_call 24; refine (HC1.out _ ((Upd.refl (fun _ => False) wr).drew)).mono ?_; rintro e wa ⟨rfl, hu3⟩; have Nwa := Lib.hid (Upd.trans ((Upd.refl (fun _ => False) wr).drew) hu3); have x0' := hu3.cell (w := wr.drew) x0 (fun x => x); have x1' := hu3.cell (w := wr.drew) x1 (fun x => x); have x2' := hu3.cell (w := wr.drew) x2 (fun x => x); have x3' := hu3.cell (w := wr.drew) x3 (fun x => x); have x4' := hu3.cell (w := wr.drew) x4 (fun x => x); have z0' := hu3.cell (w := wr.drew) z0 (fun x => x); have z1' := hu3.cell (w := wr.drew) z1 (fun x => x); have z2' := hu3.cell (w := wr.drew) z2 (fun x => x); have z3' := hu3.cell (w := wr.drew) z3 (fun x => x); have z4' := hu3.cell (w := wr.drew) z4 (fun x => x); have y0' := hu3.cell (w := wr.drew) y0 (fun x => x); have y1' := hu3.cell (w := wr.drew) y1 (fun x => x); have y2' := hu3.cell (w := wr.drew) y2 (fun x => x); have y3' := hu3.cell (w := wr.drew) y3 (fun x => x); have y4' := hu3.cell (w := wr.drew) y4 (fun x => x); have v0' := hu3.cell (w := wr.drew) v0 (fun x => x); have v1' := hu3.cell (w := wr.drew) v1 (fun x => x); have v2' := hu3.cell (w := wr.drew) v2 (fun x => x); have v3' := hu3.cell (w := wr.drew) v3 (fun x => x); have v4' := hu3.cell (w := wr.drew) v4 (fun x => x); clear hu3))
      clear x0 x1 x2 x3 x4 z0 z1 z2 z3 z4 y0 y1 y2 y3 y4 v0 v1 v2 v3 v4
      have x0 := x0'
      have x1 := x1'
      have x2 := x2'
      have x3 := x3'
      have x4 := x4'
      have z0 := z0'
      have z1 := z1'
      have z2 := z2'
      have z3 := z3'
      have z4 := z4'
      have y0 := y0'
      have y1 := y1'
      have y2 := y2'
      have y3 := y3'
      have y4 := y4'
      have v0 := v0'
      have v1 := v1'
      have v2 := v2'
      have v3 := v3'
      have v4 := v4'
      clear x0' x1' x2' x3' x4' z0' z1' z2' z3' z4' y0' y1' y2' y3' y4' v0' v1' v2' v3' v4'
      go_wp2_with fail
      go_region_held3 (fun w' => w'.cell? ⟨g, j * 5, none⟩ = some (.int .u8 X.d.k) ∧ w'.cell? ⟨g, j * 5 + 1, none⟩ = some (.int .i64 X.d.n) ∧ w'.cell? ⟨g, j * 5 + 2, none⟩ = some (.string X.d.t) ∧ w'.cell? ⟨g, j * 5 + 3, none⟩ = some X.kv ∧ w'.cell? ⟨g, j * 5 + 4, none⟩ = some (.bool X.d.dot) ∧ w'.cell? ⟨g, nx * 5, none⟩ = some (.int .u8 Z.d.k) ∧ w'.cell? ⟨g, nx * 5 + 1, none⟩ = some (.int .i64 Z.d.n) ∧ w'.cell? ⟨g, nx * 5 + 2, none⟩ = some (.string Z.d.t) ∧ w'.cell? ⟨g, nx * 5 + 3, none⟩ = some Z.kv ∧ w'.cell? ⟨g, nx * 5 + 4, none⟩ = some (.bool Z.d.dot)) (simp [*])
        ((go_simp; go_at_call 24; refine (HC2.out _ ((Nwa.out).drew)).mono ?_; rintro e wb ⟨rfl, hu3⟩; have Nwb := Lib.hid (Upd.trans ((Nwa.out).drew) hu3); have x0' := hu3.cell (w := wa.drew) x0 (fun x => x); have x1' := hu3.cell (w := wa.drew) x1 (fun x => x); have x2' := hu3.cell (w := wa.drew) x2 (fun x => x); have x3' := hu3.cell (w := wa.drew) x3 (fun x => x); have x4' := hu3.cell (w := wa.drew) x4 (fun x => x); have z0' := hu3.cell (w := wa.drew) z0 (fun x => x); have z1' := hu3.cell (w := wa.drew) z1 (fun x => x); have z2' := hu3.cell (w := wa.drew) z2 (fun x => x); have z3' := hu3.cell (w := wa.drew) z3 (fun x => x); have z4' := hu3.cell (w := wa.drew) z4 (fun x => x); have y0' := hu3.cell (w := wa.drew) y0 (fun x => x); have y1' := hu3.cell (w := wa.drew) y1 (fun x => x); have y2' := hu3.cell (w := wa.drew) y2 (fun x => x); have y3' := hu3.cell (w := wa.drew) y3 (fun x => x); have y4' := hu3.cell (w := wa.drew) y4 (fun x => x); have v0' := hu3.cell (w := wa.drew) v0 (fun x => x); have v1' := hu3.cell (w := wa.drew) v1 (fun x => x); have v2' := hu3.cell (w := wa.drew) v2 (fun x => x); have v3' := hu3.cell (w := wa.drew) v3 (fun x => x); have v4' := hu3.cell (w := wa.drew) v4 (fun x => x); clear hu3))
      clear x0 x1 x2 x3 x4 z0 z1 z2 z3 z4 y0 y1 y2 y3 y4 v0 v1 v2 v3 v4
      have x0 := x0'
      have x1 := x1'
      have x2 := x2'
      have x3 := x3'
      have x4 := x4'
      have z0 := z0'
      have z1 := z1'
      have z2 := z2'
      have z3 := z3'
      have z4 := z4'
      have y0 := y0'
      have y1 := y1'
      have y2 := y2'
      have y3 := y3'
      have y4 := y4'
      have v0 := v0'
      have v1 := v1'
      have v2 := v2'
      have v3 := v3'
      have v4 := v4'
      clear x0' x1' x2' x3' x4' z0' z1' z2' z3' z4' y0' y1' y2' y3' y4' v0' v1' v2' v3' v4'
      go_wp2_with fail
      go_region_held3 (fun w' => w'.cell? ⟨g2, o2 + j * 5, none⟩ = some (.int .u8 X.d.k) ∧ w'.cell? ⟨g2, o2 + j * 5 + 1, none⟩ = some (.int .i64 X.d.n) ∧ w'.cell? ⟨g2, o2 + j * 5 + 2, none⟩ = some (.string X.d.t) ∧ w'.cell? ⟨g2, o2 + j * 5 + 3, none⟩ = some Y.kv ∧ w'.cell? ⟨g2, o2 + j * 5 + 4, none⟩ = some (.bool X.d.dot) ∧ w'.cell? ⟨g2, o2 + nx * 5, none⟩ = some (.int .u8 Z.d.k) ∧ w'.cell? ⟨g2, o2 + nx * 5 + 1, none⟩ = some (.int .i64 Z.d.n) ∧ w'.cell? ⟨g2, o2 + nx * 5 + 2, none⟩ = some (.string Z.d.t) ∧ w'.cell? ⟨g2, o2 + nx * 5 + 3, none⟩ = some V.kv ∧ w'.cell? ⟨g2, o2 + nx * 5 + 4, none⟩ = some (.bool Z.d.dot)) (simp [*])
        ((go_simp; go_at_call 25; refine (HC3.out _ ((Nwb.out).drew)).mono ?_; rintro e wc ⟨rfl, hu3⟩; have Nwc := Lib.hid (Upd.trans ((Nwb.out).drew) hu3); have x0' := hu3.cell (w := wb.drew) x0 (fun x => x); have x1' := hu3.cell (w := wb.drew) x1 (fun x => x); have x2' := hu3.cell (w := wb.drew) x2 (fun x => x); have x3' := hu3.cell (w := wb.drew) x3 (fun x => x); have x4' := hu3.cell (w := wb.drew) x4 (fun x => x); have z0' := hu3.cell (w := wb.drew) z0 (fun x => x); have z1' := hu3.cell (w := wb.drew) z1 (fun x => x); have z2' := hu3.cell (w := wb.drew) z2 (fun x => x); have z3' := hu3.cell (w := wb.drew) z3 (fun x => x); have z4' := hu3.cell (w := wb.drew) z4 (fun x => x); have y0' := hu3.cell (w := wb.drew) y0 (fun x => x); have y1' := hu3.cell (w := wb.drew) y1 (fun x => x); have y2' := hu3.cell (w := wb.drew) y2 (fun x => x); have y3' := hu3.cell (w := wb.drew) y3 (fun x => x); have y4' := hu3.cell (w := wb.drew) y4 (fun x => x); have v0' := hu3.cell (w := wb.drew) v0 (fun x => x); have v1' := hu3.cell (w := wb.drew) v1 (fun x => x); have v2' := hu3.cell (w := wb.drew) v2 (fun x => x); have v3' := hu3.cell (w := wb.drew) v3 (fun x => x); have v4' := hu3.cell (w := wb.drew) v4 (fun x => x); clear hu3))
      clear x0 x1 x2 x3 x4 z0 z1 z2 z3 z4 y0 y1 y2 y3 y4 v0 v1 v2 v3 v4
      have x0 := x0'
      have x1 := x1'
      have x2 := x2'
      have x3 := x3'
      have x4 := x4'
      have z0 := z0'
      have z1 := z1'
      have z2 := z2'
      have z3 := z3'
      have z4 := z4'
      have y0 := y0'
      have y1 := y1'
      have y2 := y2'
      have y3 := y3'
      have y4 := y4'
      have v0 := v0'
      have v1 := v1'
      have v2 := v2'
      have v3 := v3'
      have v4 := v4'
      clear x0' x1' x2' x3' x4' z0' z1' z2' z3' z4' y0' y1' y2' y3' y4' v0' v1' v2' v3' v4'
      go_wp2_with fail
      go_roundw
      case measure => simp [intOf]; omega
      case rel => exact ⟨HN.out.trans Nwc.out, j + 1, by omega, by simp⟩
    · have j1 : ¬ (j : Int) < es2.length := by omega
      go_wp2_with fail
      refine (wholedata_calls l _ _ _ _ (HL6.out.new HN.out) (HV.out _ (HU6.out.trans HN.out))).mono ?_
      rintro e w7 ⟨rfl, hu7⟩
      have HU7 := Lib.hid ((HU6.out.trans HN.out).trans hu7)
      clear hu7
      go_wp2_with fail
      go_ret
      exact ⟨rfl, HU7.out⟩
theorem readwrites_all (l : List Dat) (v : Value) (w : World) (hv : SeesB w v l) : Calls Try.prog 5 #[v] w fun e w' => e = .returned (.bool true) ∧ New w w' := by
  by_cases h : leftL l 200000 0 < 0
  · exact readwrites_much l v w hv h
  · exact readwrites_calls l v w hv h
end Go.Proofs.Ytnnjhafjcdjobaa
