/- Read: the law ReadTails, walked: where all is written. -/
import Derived.Test.YtnnjhafjcdjobaaLwF
import Derived.Deep.DeepCutAuto
namespace Go.Proofs.Ytnnjhafjcdjobaa
open Go.RowKit
set_option linter.unusedVariables false
set_option linter.unusedSimpArgs false

theorem keep5 {w : World} {g o : Nat} {v u0 u1 u2 u3 u4 : Value} {B : Nat} (h : w.cell? ⟨g, o, none⟩ = some v) (hne : g ≠ B) : (((((w.setCell ⟨B, 0, none⟩ u0).setCell ⟨B, 1, none⟩ u1).setCell ⟨B, 2, none⟩ u2).setCell ⟨B, 3, none⟩ u3).setCell ⟨B, 4, none⟩ u4).cell? ⟨g, o, none⟩ = some v :=
  ((((((Upd.refl (fun b => b = B) w).set rfl _).set rfl _).set rfl _).set rfl _).set rfl _).cell h hne
theorem fin5 {w w0 : World} {B q : Nat} {t : TypeId} {c0 c1 c2 c3 c4 : Value} {O : Obj} (hb : w.heap[B]? = some (.cells #[c0, c1, c2, c3, c4] t (0, 0))) (hq : w.heap[q]? = some O) (hn : New w0 w) (hB : w0.heap.size ≤ B) (hne : ¬ q = B) (u0 u1 u2 u3 u4 : Value) :
    (((((w.setCell ⟨B, 0, none⟩ u0).setCell ⟨B, 1, none⟩ u1).setCell ⟨B, 2, none⟩ u2).setCell ⟨B, 3, none⟩ u3).setCell ⟨B, 4, none⟩ u4).heap[B]? = some (.cells #[u0, u1, u2, u3, u4] t (0, 0)) ∧
    (((((w.setCell ⟨B, 0, none⟩ u0).setCell ⟨B, 1, none⟩ u1).setCell ⟨B, 2, none⟩ u2).setCell ⟨B, 3, none⟩ u3).setCell ⟨B, 4, none⟩ u4).heap[q]? = some O ∧
    New w0 (((((w.setCell ⟨B, 0, none⟩ u0).setCell ⟨B, 1, none⟩ u1).setCell ⟨B, 2, none⟩ u2).setCell ⟨B, 3, none⟩ u3).setCell ⟨B, 4, none⟩ u4) := by
  have hu := ((((((Upd.refl (fun b => b = B) w).set (b := B) (i := 0) rfl u0).set (b := B) (i := 1) rfl u1).set (b := B) (i := 2) rfl u2).set (b := B) (i := 3) rfl u3).set (b := B) (i := 4) rfl u4)
  exact ⟨bset5 hb, hu.heap hq hne, hn.trans' hu (fun b hb e => by omega)⟩
set_option maxHeartbeats 8000000 in
set_option maxRecDepth 20000 in
theorem tails_ok_ok_ok (v v2 : Value) (x : Dat) (l m : List Dat) (w : World) (hv : SeesB w v (x :: l)) (hv2 : SeesB w v2 m) (h : ¬ leftL (x :: l) 200000 0 < 0) (hh2 : ¬ leftL m 200000 0 < 0) (he : writeE (x :: l) = 0) (hf : writeE m = 0) (hlong : (textW (x :: l)).size + (textW m).size ≤ 60000) (h1 : RdOk (s1T (textW (x :: l)) (textW m)) [lst (x :: l ++ m) false]) (h2 : RdOk (s2T (textW (x :: l)) (textW m)) [lst (x :: l ++ m) false]) (h3 : RdOk (s3T (textW (x :: l))) (lst [sym quoteT, x] false :: l)) : Calls Try.prog 8 #[v, v2] w fun e w' => e = .returned (.bool true) ∧ New w w' := by
  obtain ⟨m1, m2, m3, m4⟩ := much_not h
  obtain ⟨n1, n2, n3, n4⟩ := much_not hh2
  obtain ⟨es, hes, hsn, -⟩ := hv.inv
  obtain ⟨A, c, hvv⟩ := hsn.form
  have hll : es.length = l.length + 1 := by have := congrArg List.length hes; simp at this; omega
  rw [hll] at hvv
  subst hvv
  clear hes hsn hll
  have HMU := Lib.hid (fun w' (hn : New w w') => much_calls (x :: l) _ w' (hv.new hn))
  have HMU2 := Lib.hid (fun w' (hn : New w w') => much_calls m v2 w' (hv2.new hn))
  have hd : decide (leftL (x :: l) 200000 0 < 0) = false := decide_eq_false h
  have hd2 : decide (leftL m 200000 0 < 0) = false := decide_eq_false hh2
  rw [hd] at HMU
  rw [hd2] at HMU2
  have hle : (((l.length + 1 : Nat) : Int) == 0) = false := by simp; omega
  have hlp : (0 : Int) < ((l.length + 1 : Nat) : Int) := by omega
  have HV := Lib.hid (fun w' (hn : New w w') => (hv.sees (by omega)).new hn)
  have HV2 := Lib.hid (fun w' (hn : New w w') => (hv2.sees (by omega)).new hn)
  have HW1 := Lib.hid (fun w' (hn : New w w') => write_all (HV.out w' hn) m2 (by omega) (by omega))
  have HW2 := Lib.hid (fun w' (hn : New w w') => write_all (HV2.out w' hn) n2 (by omega) (by omega))
  rw [writeT, if_pos he, he] at HW1
  rw [writeT, if_pos hf, hf] at HW2
  have hml := (may_of he).2
  have hmm := (may_of hf).2
  have HMA := Lib.hid (show manyL [lst (x :: l ++ m) false] ≤ 2000000 by rw [manyL, manyL, lst, Dat.many, manyL_append]; omega)
  have HMB := Lib.hid (show manyL (lst [sym quoteT, x] false :: l) ≤ 2000000 by rw [manyL] at hml ⊢; rw [lst, Dat.many, manyL, manyL, manyL, sym, Dat.many, manyL]; omega)
  generalize textW (x :: l) = T1 at *
  generalize textW m = T2 at *
  have hq1 : ((T1.size : Int) + T2.size) ≤ 60000 := by omega
  have hq2 : decide (60000 < T1.size + T2.size) = false := decide_eq_false (by omega)
  have hq3 : ¬ (60000 : Int) < (T1.size : Int) + T2.size := by omega
  have H1 := Lib.hid h1
  have H2 := Lib.hid h2
  have H3 := Lib.hid h3
  unfold RdOk s1T at H1
  unfold RdOk s2T at H2
  unfold RdOk s3T at H3
  clear h hh2 h1 h2 h3 hd hd2 hv hv2 m1 m2 m3 m4 n1 n2 n3 n4 he hf hlong hml hmm
  go_enter Try.func8, Try.ntmps8
  go_wp2_with fail
  refine (works_calls _).mono ?_
  rintro e w1 ⟨rfl, hu1⟩
  have HU1 := Lib.hid hu1
  clear hu1
  go_wp2_with fail
  refine (HMU.out _ HU1.out).mono ?_
  rintro e w2 ⟨rfl, hu2⟩
  have HU2 := Lib.hid (HU1.out.trans hu2)
  clear hu2
  go_wp2_with fail
  refine (HMU2.out _ HU2.out).mono ?_
  rintro e w3 ⟨rfl, hu3⟩
  have HU3 := Lib.hid (HU2.out.trans hu3)
  clear hu3
  go_wp2_with fail
  refine (HW1.out _ HU3.out).mono ?_
  rintro e w4 ⟨rfl, hu4⟩
  have HU4 := Lib.hid (HU3.out.trans hu4)
  clear hu4
  go_wp2_with fail
  refine (HW2.out _ HU4.out).mono ?_
  rintro e w5 ⟨rfl, hu5⟩
  have HU5 := Lib.hid (HU4.out.trans hu5)
  clear hu5
  go_wp2_with fail
  refine (H1.out _).mono ?_
  rintro e w6 ⟨A6, c6, bs6, rfl, hu6, ho6, -⟩
  have HU6 := Lib.hid (HU5.out.trans hu6)
  have HO6 := Lib.hid (own_sees ho6 HMA.out)
  clear hu6 ho6
  go_wp2_with fail
  refine (H2.out _).mono ?_
  rintro e w7 ⟨A7, c7, bs7, rfl, hu7, ho7, -⟩
  have HU7 := Lib.hid (HU6.out.trans hu7)
  have HO7 := Lib.hid (own_sees ho7 HMA.out)
  have HP7 := Lib.hid (HO6.out.new hu7)
  clear hu7 ho7 HO6
  go_wp2_with fail
  refine (sdata_calls _ _ _ _ _ HP7.out HO7.out).mono ?_
  rintro e w8 ⟨rfl, hu8⟩
  have HU8 := Lib.hid (HU7.out.trans hu8)
  clear hu8
  rw [sameL_true rfl]
  go_wp2_with fail
  refine (H3.out _).mono ?_
  rintro e w9 ⟨A9, c9, bs9, rfl, hu9, ho9, -⟩
  have HU9 := Lib.hid (HU8.out.trans hu9)
  have HO9 := Lib.hid (own_sees ho9 HMB.out)
  clear hu9 ho9
  have hlw := HV.out _ HU9.out
  obtain ⟨es, hes, hsn, -, hks⟩ := hlw.inv
  have hl0 : 0 < es.length := by have := congrArg List.length hes; simp at this; omega
  obtain ⟨g, o, cc, hA, -, hltg, x0, x1, x2, x3, x4⟩ := hsn.at 0 hl0
  simp only [Value.slice.injEq] at hA
  obtain ⟨rfl, -, -⟩ := hA
  have hx : es[0].d = x := by
    have := congrArg (fun l => l[0]?) hes
    simpa [List.getElem?_eq_getElem hl0] using this.symm
  have hk := hks es[0] (List.getElem_mem hl0)
  obtain ⟨esx, -, hsx, -⟩ := hk.inv
  obtain ⟨A4, c4, hkv⟩ := hsx.form
  rw [hx] at x0 x1 x2 x4 hk
  rw [hkv] at x3 hk
  generalize esx.length = N4 at *
  simp only [Nat.zero_mul, Nat.add_zero] at x0 x1 x2 x3 x4
  have HK := Lib.hid hk
  clear hlw hes hsn hks hl0 hx hk hsx hkv
  go_wp2_with fail
  have HE1 : Hid ((w9.alloc (.cells #[.int .u8 0, .int .i64 0, .string ⟨#[]⟩, .slice none 0 0, .bool false] 58)).drew.heap[w9.heap.size]? = some (.cells #[.int .u8 0, .int .i64 0, .string ⟨#[]⟩, .slice none 0 0, .bool false] 58 (0, 0))) := Lib.hid (heap_alloc_new w9 (.cells #[.int .u8 0, .int .i64 0, .string ⟨#[]⟩, .slice none 0 0, .bool false] 58))
  go_cut [21] (fun s21 wx => ∃ B q : Nat, s21 = .pointer (some ⟨B, 0, none⟩) ∧ wx.heap[B]? = some (.cells #[.int .u8 5, .int .i64 0, .string ⟨#[]⟩, .slice (some ⟨q, 0, none⟩) 2 2, .bool false] 58 (0, 0)) ∧ wx.heap[q]? = some (.cells #[.int .u8 2, .int .i64 0, .string ⟨#[113, 117, 111, 116, 101]⟩, .slice none 0 0, .bool false, .int .u8 x.k, .int .i64 x.n, .string x.t, .slice A4 N4 c4, .bool x.dot] 58 (0, 0)) ∧ New w9 wx)
  case first =>
    go_region_held3 (fun w' => w'.cell? ⟨g, o, none⟩ = some (.int .u8 x.k) ∧ w'.cell? ⟨g, o + 1, none⟩ = some (.int .i64 x.n) ∧ w'.cell? ⟨g, o + 2, none⟩ = some (.string x.t) ∧ w'.cell? ⟨g, o + 3, none⟩ = some (.slice A4 N4 c4) ∧ w'.cell? ⟨g, o + 4, none⟩ = some (.bool x.dot)) (first | (with_reducible exact ⟨x0, x1, x2, x3, x4⟩) | (with_reducible exact ⟨y0, y1, y2, y3, y4⟩) | (with_reducible exact ⟨z0, z1, z2, z3, z4⟩) | (with_reducible exact ⟨keep5 z0 (by omega), keep5 z1 (by omega), keep5 z2 (by omega), keep5 z3 (by omega), keep5 z4 (by omega)⟩) | go_keep)
      (first
        | (go_at_call 29; refine (symbol_calls ⟨#[113, 117, 111, 116, 101]⟩ _).mono ?_; rintro e w15 ⟨rfl, hu15⟩; have hv15 := Upd.trans (a := w9) (by repeat (with_reducible first | exact Upd.refl (fun _ => False) _ | refine Upd.alloc ?_ _ | refine Upd.drew ?_)) hu15; have y0 := hv15.cell x0 (fun x => x); have y1 := hv15.cell x1 (fun x => x); have y2 := hv15.cell x2 (fun x => x); have y3 := hv15.cell x3 (fun x => x); have y4 := hv15.cell x4 (fun x => x); (first | ((with_reducible have hb15 := Upd.heap hu15 (k := w9.heap.size) (HE1.out) (fun x => x)); obtain ⟨⟨p0, p1, p2, p3, p4⟩, pf⟩ := blk5 hb15; have HB15 := Lib.hid hb15; have hl15 := (Array.getElem?_eq_some_iff.1 hb15).1; clear hb15) | skip); have HU15 := Lib.hid hv15; have hz15 := hv15.size; clear hu15 hv15)
        | (go_at_call 28; refine (list_calls _ _ _ _).mono ?_; rintro e w16 ⟨rfl, hu16⟩; have hv16 := Upd.trans (a := w15) (by repeat (with_reducible first | exact Upd.refl (fun _ => False) _ | refine Upd.alloc ?_ _ | refine Upd.drew ?_)) hu16; have z0 := hv16.cell y0 (fun x => x); have z1 := hv16.cell y1 (fun x => x); have z2 := hv16.cell y2 (fun x => x); have z3 := hv16.cell y3 (fun x => x); have z4 := hv16.cell y4 (fun x => x); (first | ((with_reducible have hb16 := Upd.heap hu16 (k := w9.heap.size) (halloc HB15.out _) (fun x => x)); obtain ⟨⟨p0, p1, p2, p3, p4⟩, pf⟩ := blk5 hb16; have HB16 := Lib.hid hb16; have hl16 := (Array.getElem?_eq_some_iff.1 hb16).1; clear hb16) | ((with_reducible have hb16 := Upd.heap hu16 (k := w15.heap.size) (alloc1 w15 (.cells #[.int .u8 0, .int .i64 0, .string ⟨#[]⟩, .slice none 0 0, .bool false] 58) (.cells #[.int .u8 2, .int .i64 0, .string ⟨#[113, 117, 111, 116, 101]⟩, .slice none 0 0, .bool false, .int .u8 x.k, .int .i64 x.n, .string x.t, .slice A4 N4 c4, .bool x.dot] 58)) (fun x => x)); obtain ⟨⟨p0, p1, p2, p3, p4⟩, pf⟩ := blk5 hb16; have HB16 := Lib.hid hb16; have hl16 := (Array.getElem?_eq_some_iff.1 hb16).1; clear hb16) | ((with_reducible have hb16 := Upd.heap hu16 (k := w15.heap.size + 1) (alloc2 w15 (.cells #[.int .u8 2, .int .i64 0, .string ⟨#[113, 117, 111, 116, 101]⟩, .slice none 0 0, .bool false, .int .u8 x.k, .int .i64 x.n, .string x.t, .slice A4 N4 c4, .bool x.dot] 58) (.cells #[.int .u8 0, .int .i64 0, .string ⟨#[]⟩, .slice none 0 0, .bool false] 58)) (fun x => x)); obtain ⟨⟨p0, p1, p2, p3, p4⟩, pf⟩ := blk5 hb16; have HB16 := Lib.hid hb16; have hl16 := (Array.getElem?_eq_some_iff.1 hb16).1; clear hb16) | skip); have HU16 := Lib.hid (HU15.out.trans hv16); (first | (with_reducible have HQ16 := Lib.hid (Upd.heap hu16 (k := w15.heap.size) (heap_alloc_new w15 (.cells #[.int .u8 2, .int .i64 0, .string ⟨#[113, 117, 111, 116, 101]⟩, .slice none 0 0, .bool false, .int .u8 x.k, .int .i64 x.n, .string x.t, .slice A4 N4 c4, .bool x.dot] 58)) (fun x => x))) | (with_reducible have HQ16 := Lib.hid (Upd.heap hu16 (k := w15.heap.size + 1) (alloc2 w15 (.cells #[.int .u8 0, .int .i64 0, .string ⟨#[]⟩, .slice none 0 0, .bool false] 58) (.cells #[.int .u8 2, .int .i64 0, .string ⟨#[113, 117, 111, 116, 101]⟩, .slice none 0 0, .bool false, .int .u8 x.k, .int .i64 x.n, .string x.t, .slice A4 N4 c4, .bool x.dot] 58)) (fun x => x))) | (with_reducible have HQ16 := Lib.hid (Upd.heap hu16 (k := w15.heap.size) (alloc1 w15 (.cells #[.int .u8 2, .int .i64 0, .string ⟨#[113, 117, 111, 116, 101]⟩, .slice none 0 0, .bool false, .int .u8 x.k, .int .i64 x.n, .string x.t, .slice A4 N4 c4, .bool x.dot] 58) (.cells #[.int .u8 0, .int .i64 0, .string ⟨#[]⟩, .slice none 0 0, .bool false] 58)) (fun x => x)))); have hz16 := hv16.size; clear hu16 hv16))
    all_goals go_wp2_with fail
    all_goals go_meet
    all_goals (first | (with_reducible exact ⟨_, _, rfl, heap_alloc_new w16 _, halloc HQ16.out _, Upd.alloc HU16.out _⟩) | exact ⟨_, _, rfl, fin5 HB16.out HQ16.out HU16.out (by omega) (by omega) _ _ _ _ _⟩)
  case rest =>
    obtain ⟨B, q, rfl, hB, hq, hn⟩ := hcut
    have hkx := HK.out.new hn
    have hsb := sees_block (c := 2) [⟨sym quoteT, .slice none 0 0, []⟩, ⟨x, .slice A4 N4 c4, []⟩] hq rfl (by simp) (fun e he => by
      simp only [List.mem_cons, List.not_mem_nil, or_false] at he
      rcases he with rfl | rfl
      · exact sees_nil _ _ _ _
      · exact hkx)
    have HSB := Lib.hid hsb
    obtain ⟨⟨b0, b1, b2, b3, b4⟩, bf⟩ := blk5 hB
    obtain ⟨es, hes, hsn, -, hks⟩ := (HO9.out.new hn).inv
    have hl0 : 0 < es.length := by have := congrArg List.length hes; simp at this; omega
    obtain ⟨g2, o2, cc2, hA2, -, -, t0, t1, t2, t3, t4⟩ := hsn.at 0 hl0
    simp only [Value.slice.injEq] at hA2
    obtain ⟨rfl, -, -⟩ := hA2
    have hx : es[0].d = lst [sym quoteT, x] false := by
      have := congrArg (fun l => l[0]?) hes
      simpa [List.getElem?_eq_getElem hl0] using this.symm
    have hk := hks es[0] (List.getElem_mem hl0)
    obtain ⟨esx, -, hsx, -⟩ := hk.inv
    obtain ⟨A10, c10, hkv⟩ := hsx.form
    rw [hx] at t0 t1 t2 t4 hk
    rw [hkv] at t3 hk
    generalize esx.length = N10 at *
    simp only [Nat.zero_mul, Nat.add_zero] at t0 t1 t2 t3 t4
    replace t0 : wc.cell? ⟨g2, o2, none⟩ = some (.int .u8 5) := t0
    replace t1 : wc.cell? ⟨g2, o2 + 1, none⟩ = some (.int .i64 0) := t1
    replace t2 : wc.cell? ⟨g2, o2 + 2, none⟩ = some (.string ⟨#[]⟩) := t2
    replace t4 : wc.cell? ⟨g2, o2 + 4, none⟩ = some (.bool false) := t4
    have HKD := Lib.hid (show Sees wc All (.slice A10 N10 c10) [sym quoteT, x] from hk)
    have HN := Lib.hid (HU9.out.trans hn)
    clear hkx hsb hB hq hn hes hsn hks hl0 hx hk hsx hkv bf
    go_wp2_with fail
    go_region_held3 (fun w' => w'.cell? ⟨g2, o2, none⟩ = some (.int .u8 5) ∧ w'.cell? ⟨g2, o2 + 1, none⟩ = some (.int .i64 0) ∧ w'.cell? ⟨g2, o2 + 2, none⟩ = some (.string ⟨#[]⟩) ∧ w'.cell? ⟨g2, o2 + 3, none⟩ = some (.slice A10 N10 c10) ∧ w'.cell? ⟨g2, o2 + 4, none⟩ = some (.bool false) ∧ w'.cell? ⟨B, 0, none⟩ = some (.int .u8 5) ∧ w'.cell? ⟨B, 1, none⟩ = some (.int .i64 0) ∧ w'.cell? ⟨B, 2, none⟩ = some (.string ⟨#[]⟩) ∧ w'.cell? ⟨B, 3, none⟩ = some (.slice (some ⟨q, 0, none⟩) 2 2) ∧ w'.cell? ⟨B, 4, none⟩ = some (.bool false)) (first | (with_reducible exact ⟨t0, t1, t2, t3, t4, b0, b1, b2, b3, b4⟩) | (with_reducible exact ⟨r0, r1, r2, r3, r4, s0, s1, s2, s3, s4⟩) | go_keep)
      (first
        | (go_at_call 24; refine (same_calls (lst [sym quoteT, x] false) (lst [sym quoteT, x] false) All (.slice A10 N10 c10) (.slice (some ⟨q, 0, none⟩) 2 2) _ (HKD.out.new (Upd.refl (fun _ => False) wc).drew) (HSB.out.new (Upd.refl (fun _ => False) wc).drew)).mono ?_; rintro e w18 ⟨rfl, hu18⟩; replace hu18 := Upd.trans ((Upd.refl (fun _ => False) wc).drew) hu18; have r0 := hu18.cell t0 (fun x => x); have r1 := hu18.cell t1 (fun x => x); have r2 := hu18.cell t2 (fun x => x); have r3 := hu18.cell t3 (fun x => x); have r4 := hu18.cell t4 (fun x => x); have s0 := hu18.cell b0 (fun x => x); have s1 := hu18.cell b1 (fun x => x); have s2 := hu18.cell b2 (fun x => x); have s3 := hu18.cell b3 (fun x => x); have s4 := hu18.cell b4 (fun x => x); have HU18 := Lib.hid (HN.out.trans hu18); clear hu18))
    rw [sameB_true rfl]
    go_wp2_with fail
    go_ret
    exact ⟨rfl, HU18.out⟩
set_option maxHeartbeats 8000000 in
set_option maxRecDepth 20000 in
theorem tails_ok_no_ok (v v2 : Value) (x : Dat) (l m : List Dat) (w : World) (hv : SeesB w v (x :: l)) (hv2 : SeesB w v2 m) (h : ¬ leftL (x :: l) 200000 0 < 0) (hh2 : ¬ leftL m 200000 0 < 0) (he : writeE (x :: l) = 0) (hf : writeE m = 0) (hlong : (textW (x :: l)).size + (textW m).size ≤ 60000) (h1 : RdOk (s1T (textW (x :: l)) (textW m)) [lst (x :: l ++ m) false]) (er2 pl2 : Int) (hr2 : (er2 == 0) = false) (h2 : RdNo (s2T (textW (x :: l)) (textW m)) er2 pl2) (h3 : RdOk (s3T (textW (x :: l))) (lst [sym quoteT, x] false :: l)) : Calls Try.prog 8 #[v, v2] w fun e w' => e = .returned (.bool true) ∧ New w w' := by
  obtain ⟨m1, m2, m3, m4⟩ := much_not h
  obtain ⟨n1, n2, n3, n4⟩ := much_not hh2
  obtain ⟨es, hes, hsn, -⟩ := hv.inv
  obtain ⟨A, c, hvv⟩ := hsn.form
  have hll : es.length = l.length + 1 := by have := congrArg List.length hes; simp at this; omega
  rw [hll] at hvv
  subst hvv
  clear hes hsn hll
  have HMU := Lib.hid (fun w' (hn : New w w') => much_calls (x :: l) _ w' (hv.new hn))
  have HMU2 := Lib.hid (fun w' (hn : New w w') => much_calls m v2 w' (hv2.new hn))
  have hd : decide (leftL (x :: l) 200000 0 < 0) = false := decide_eq_false h
  have hd2 : decide (leftL m 200000 0 < 0) = false := decide_eq_false hh2
  rw [hd] at HMU
  rw [hd2] at HMU2
  have hle : (((l.length + 1 : Nat) : Int) == 0) = false := by simp; omega
  have hlp : (0 : Int) < ((l.length + 1 : Nat) : Int) := by omega
  have HV := Lib.hid (fun w' (hn : New w w') => (hv.sees (by omega)).new hn)
  have HV2 := Lib.hid (fun w' (hn : New w w') => (hv2.sees (by omega)).new hn)
  have HW1 := Lib.hid (fun w' (hn : New w w') => write_all (HV.out w' hn) m2 (by omega) (by omega))
  have HW2 := Lib.hid (fun w' (hn : New w w') => write_all (HV2.out w' hn) n2 (by omega) (by omega))
  rw [writeT, if_pos he, he] at HW1
  rw [writeT, if_pos hf, hf] at HW2
  have hml := (may_of he).2
  have hmm := (may_of hf).2
  have HMA := Lib.hid (show manyL [lst (x :: l ++ m) false] ≤ 2000000 by rw [manyL, manyL, lst, Dat.many, manyL_append]; omega)
  have HMB := Lib.hid (show manyL (lst [sym quoteT, x] false :: l) ≤ 2000000 by rw [manyL] at hml ⊢; rw [lst, Dat.many, manyL, manyL, manyL, sym, Dat.many, manyL]; omega)
  generalize textW (x :: l) = T1 at *
  generalize textW m = T2 at *
  have hq1 : ((T1.size : Int) + T2.size) ≤ 60000 := by omega
  have hq2 : decide (60000 < T1.size + T2.size) = false := decide_eq_false (by omega)
  have hq3 : ¬ (60000 : Int) < (T1.size : Int) + T2.size := by omega
  have H1 := Lib.hid h1
  have H2 := Lib.hid h2
  have H3 := Lib.hid h3
  unfold RdOk s1T at H1
  unfold RdNo s2T at H2
  unfold RdOk s3T at H3
  clear h hh2 h1 h2 h3 hd hd2 hv hv2 m1 m2 m3 m4 n1 n2 n3 n4 he hf hlong hml hmm
  go_enter Try.func8, Try.ntmps8
  go_wp2_with fail
  refine (works_calls _).mono ?_
  rintro e w1 ⟨rfl, hu1⟩
  have HU1 := Lib.hid hu1
  clear hu1
  go_wp2_with fail
  refine (HMU.out _ HU1.out).mono ?_
  rintro e w2 ⟨rfl, hu2⟩
  have HU2 := Lib.hid (HU1.out.trans hu2)
  clear hu2
  go_wp2_with fail
  refine (HMU2.out _ HU2.out).mono ?_
  rintro e w3 ⟨rfl, hu3⟩
  have HU3 := Lib.hid (HU2.out.trans hu3)
  clear hu3
  go_wp2_with fail
  refine (HW1.out _ HU3.out).mono ?_
  rintro e w4 ⟨rfl, hu4⟩
  have HU4 := Lib.hid (HU3.out.trans hu4)
  clear hu4
  go_wp2_with fail
  refine (HW2.out _ HU4.out).mono ?_
  rintro e w5 ⟨rfl, hu5⟩
  have HU5 := Lib.hid (HU4.out.trans hu5)
  clear hu5
  go_wp2_with fail
  refine (H1.out _).mono ?_
  rintro e w6 ⟨A6, c6, bs6, rfl, hu6, ho6, -⟩
  have HU6 := Lib.hid (HU5.out.trans hu6)
  have HO6 := Lib.hid (own_sees ho6 HMA.out)
  clear hu6 ho6
  go_wp2_with fail
  refine (H2.out _).mono ?_
  rintro e w7 ⟨rfl, hu7⟩
  have HU7 := Lib.hid (HU6.out.trans hu7)
  have HU8 := HU7
  clear hu7
  go_wp2_with fail
  refine (H3.out _).mono ?_
  rintro e w9 ⟨A9, c9, bs9, rfl, hu9, ho9, -⟩
  have HU9 := Lib.hid (HU8.out.trans hu9)
  have HO9 := Lib.hid (own_sees ho9 HMB.out)
  clear hu9 ho9
  have hlw := HV.out _ HU9.out
  obtain ⟨es, hes, hsn, -, hks⟩ := hlw.inv
  have hl0 : 0 < es.length := by have := congrArg List.length hes; simp at this; omega
  obtain ⟨g, o, cc, hA, -, hltg, x0, x1, x2, x3, x4⟩ := hsn.at 0 hl0
  simp only [Value.slice.injEq] at hA
  obtain ⟨rfl, -, -⟩ := hA
  have hx : es[0].d = x := by
    have := congrArg (fun l => l[0]?) hes
    simpa [List.getElem?_eq_getElem hl0] using this.symm
  have hk := hks es[0] (List.getElem_mem hl0)
  obtain ⟨esx, -, hsx, -⟩ := hk.inv
  obtain ⟨A4, c4, hkv⟩ := hsx.form
  rw [hx] at x0 x1 x2 x4 hk
  rw [hkv] at x3 hk
  generalize esx.length = N4 at *
  simp only [Nat.zero_mul, Nat.add_zero] at x0 x1 x2 x3 x4
  have HK := Lib.hid hk
  clear hlw hes hsn hks hl0 hx hk hsx hkv
  go_wp2_with fail
  have HE1 : Hid ((w9.alloc (.cells #[.int .u8 0, .int .i64 0, .string ⟨#[]⟩, .slice none 0 0, .bool false] 58)).drew.heap[w9.heap.size]? = some (.cells #[.int .u8 0, .int .i64 0, .string ⟨#[]⟩, .slice none 0 0, .bool false] 58 (0, 0))) := Lib.hid (heap_alloc_new w9 (.cells #[.int .u8 0, .int .i64 0, .string ⟨#[]⟩, .slice none 0 0, .bool false] 58))
  go_cut [21] (fun s21 wx => ∃ B q : Nat, s21 = .pointer (some ⟨B, 0, none⟩) ∧ wx.heap[B]? = some (.cells #[.int .u8 5, .int .i64 0, .string ⟨#[]⟩, .slice (some ⟨q, 0, none⟩) 2 2, .bool false] 58 (0, 0)) ∧ wx.heap[q]? = some (.cells #[.int .u8 2, .int .i64 0, .string ⟨#[113, 117, 111, 116, 101]⟩, .slice none 0 0, .bool false, .int .u8 x.k, .int .i64 x.n, .string x.t, .slice A4 N4 c4, .bool x.dot] 58 (0, 0)) ∧ New w9 wx)
  case first =>
    go_region_held3 (fun w' => w'.cell? ⟨g, o, none⟩ = some (.int .u8 x.k) ∧ w'.cell? ⟨g, o + 1, none⟩ = some (.int .i64 x.n) ∧ w'.cell? ⟨g, o + 2, none⟩ = some (.string x.t) ∧ w'.cell? ⟨g, o + 3, none⟩ = some (.slice A4 N4 c4) ∧ w'.cell? ⟨g, o + 4, none⟩ = some (.bool x.dot)) (first | (with_reducible exact ⟨x0, x1, x2, x3, x4⟩) | (with_reducible exact ⟨y0, y1, y2, y3, y4⟩) | (with_reducible exact ⟨z0, z1, z2, z3, z4⟩) | (with_reducible exact ⟨keep5 z0 (by omega), keep5 z1 (by omega), keep5 z2 (by omega), keep5 z3 (by omega), keep5 z4 (by omega)⟩) | go_keep)
      (first
        | (go_at_call 29; refine (symbol_calls ⟨#[113, 117, 111, 116, 101]⟩ _).mono ?_; rintro e w15 ⟨rfl, hu15⟩; have hv15 := Upd.trans (a := w9) (by repeat (with_reducible first | exact Upd.refl (fun _ => False) _ | refine Upd.alloc ?_ _ | refine Upd.drew ?_)) hu15; have y0 := hv15.cell x0 (fun x => x); have y1 := hv15.cell x1 (fun x => x); have y2 := hv15.cell x2 (fun x => x); have y3 := hv15.cell x3 (fun x => x); have y4 := hv15.cell x4 (fun x => x); (first | ((with_reducible have hb15 := Upd.heap hu15 (k := w9.heap.size) (HE1.out) (fun x => x)); obtain ⟨⟨p0, p1, p2, p3, p4⟩, pf⟩ := blk5 hb15; have HB15 := Lib.hid hb15; have hl15 := (Array.getElem?_eq_some_iff.1 hb15).1; clear hb15) | skip); have HU15 := Lib.hid hv15; have hz15 := hv15.size; clear hu15 hv15)
        | (go_at_call 28; refine (list_calls _ _ _ _).mono ?_; rintro e w16 ⟨rfl, hu16⟩; have hv16 := Upd.trans (a := w15) (by repeat (with_reducible first | exact Upd.refl (fun _ => False) _ | refine Upd.alloc ?_ _ | refine Upd.drew ?_)) hu16; have z0 := hv16.cell y0 (fun x => x); have z1 := hv16.cell y1 (fun x => x); have z2 := hv16.cell y2 (fun x => x); have z3 := hv16.cell y3 (fun x => x); have z4 := hv16.cell y4 (fun x => x); (first | ((with_reducible have hb16 := Upd.heap hu16 (k := w9.heap.size) (halloc HB15.out _) (fun x => x)); obtain ⟨⟨p0, p1, p2, p3, p4⟩, pf⟩ := blk5 hb16; have HB16 := Lib.hid hb16; have hl16 := (Array.getElem?_eq_some_iff.1 hb16).1; clear hb16) | ((with_reducible have hb16 := Upd.heap hu16 (k := w15.heap.size) (alloc1 w15 (.cells #[.int .u8 0, .int .i64 0, .string ⟨#[]⟩, .slice none 0 0, .bool false] 58) (.cells #[.int .u8 2, .int .i64 0, .string ⟨#[113, 117, 111, 116, 101]⟩, .slice none 0 0, .bool false, .int .u8 x.k, .int .i64 x.n, .string x.t, .slice A4 N4 c4, .bool x.dot] 58)) (fun x => x)); obtain ⟨⟨p0, p1, p2, p3, p4⟩, pf⟩ := blk5 hb16; have HB16 := Lib.hid hb16; have hl16 := (Array.getElem?_eq_some_iff.1 hb16).1; clear hb16) | ((with_reducible have hb16 := Upd.heap hu16 (k := w15.heap.size + 1) (alloc2 w15 (.cells #[.int .u8 2, .int .i64 0, .string ⟨#[113, 117, 111, 116, 101]⟩, .slice none 0 0, .bool false, .int .u8 x.k, .int .i64 x.n, .string x.t, .slice A4 N4 c4, .bool x.dot] 58) (.cells #[.int .u8 0, .int .i64 0, .string ⟨#[]⟩, .slice none 0 0, .bool false] 58)) (fun x => x)); obtain ⟨⟨p0, p1, p2, p3, p4⟩, pf⟩ := blk5 hb16; have HB16 := Lib.hid hb16; have hl16 := (Array.getElem?_eq_some_iff.1 hb16).1; clear hb16) | skip); have HU16 := Lib.hid (HU15.out.trans hv16); (first | (with_reducible have HQ16 := Lib.hid (Upd.heap hu16 (k := w15.heap.size) (heap_alloc_new w15 (.cells #[.int .u8 2, .int .i64 0, .string ⟨#[113, 117, 111, 116, 101]⟩, .slice none 0 0, .bool false, .int .u8 x.k, .int .i64 x.n, .string x.t, .slice A4 N4 c4, .bool x.dot] 58)) (fun x => x))) | (with_reducible have HQ16 := Lib.hid (Upd.heap hu16 (k := w15.heap.size + 1) (alloc2 w15 (.cells #[.int .u8 0, .int .i64 0, .string ⟨#[]⟩, .slice none 0 0, .bool false] 58) (.cells #[.int .u8 2, .int .i64 0, .string ⟨#[113, 117, 111, 116, 101]⟩, .slice none 0 0, .bool false, .int .u8 x.k, .int .i64 x.n, .string x.t, .slice A4 N4 c4, .bool x.dot] 58)) (fun x => x))) | (with_reducible have HQ16 := Lib.hid (Upd.heap hu16 (k := w15.heap.size) (alloc1 w15 (.cells #[.int .u8 2, .int .i64 0, .string ⟨#[113, 117, 111, 116, 101]⟩, .slice none 0 0, .bool false, .int .u8 x.k, .int .i64 x.n, .string x.t, .slice A4 N4 c4, .bool x.dot] 58) (.cells #[.int .u8 0, .int .i64 0, .string ⟨#[]⟩, .slice none 0 0, .bool false] 58)) (fun x => x)))); have hz16 := hv16.size; clear hu16 hv16))
    all_goals go_wp2_with fail
    all_goals go_meet
    all_goals (first | (with_reducible exact ⟨_, _, rfl, heap_alloc_new w16 _, halloc HQ16.out _, Upd.alloc HU16.out _⟩) | exact ⟨_, _, rfl, fin5 HB16.out HQ16.out HU16.out (by omega) (by omega) _ _ _ _ _⟩)
  case rest =>
    obtain ⟨B, q, rfl, hB, hq, hn⟩ := hcut
    have hkx := HK.out.new hn
    have hsb := sees_block (c := 2) [⟨sym quoteT, .slice none 0 0, []⟩, ⟨x, .slice A4 N4 c4, []⟩] hq rfl (by simp) (fun e he => by
      simp only [List.mem_cons, List.not_mem_nil, or_false] at he
      rcases he with rfl | rfl
      · exact sees_nil _ _ _ _
      · exact hkx)
    have HSB := Lib.hid hsb
    obtain ⟨⟨b0, b1, b2, b3, b4⟩, bf⟩ := blk5 hB
    obtain ⟨es, hes, hsn, -, hks⟩ := (HO9.out.new hn).inv
    have hl0 : 0 < es.length := by have := congrArg List.length hes; simp at this; omega
    obtain ⟨g2, o2, cc2, hA2, -, -, t0, t1, t2, t3, t4⟩ := hsn.at 0 hl0
    simp only [Value.slice.injEq] at hA2
    obtain ⟨rfl, -, -⟩ := hA2
    have hx : es[0].d = lst [sym quoteT, x] false := by
      have := congrArg (fun l => l[0]?) hes
      simpa [List.getElem?_eq_getElem hl0] using this.symm
    have hk := hks es[0] (List.getElem_mem hl0)
    obtain ⟨esx, -, hsx, -⟩ := hk.inv
    obtain ⟨A10, c10, hkv⟩ := hsx.form
    rw [hx] at t0 t1 t2 t4 hk
    rw [hkv] at t3 hk
    generalize esx.length = N10 at *
    simp only [Nat.zero_mul, Nat.add_zero] at t0 t1 t2 t3 t4
    replace t0 : wc.cell? ⟨g2, o2, none⟩ = some (.int .u8 5) := t0
    replace t1 : wc.cell? ⟨g2, o2 + 1, none⟩ = some (.int .i64 0) := t1
    replace t2 : wc.cell? ⟨g2, o2 + 2, none⟩ = some (.string ⟨#[]⟩) := t2
    replace t4 : wc.cell? ⟨g2, o2 + 4, none⟩ = some (.bool false) := t4
    have HKD := Lib.hid (show Sees wc All (.slice A10 N10 c10) [sym quoteT, x] from hk)
    have HN := Lib.hid (HU9.out.trans hn)
    clear hkx hsb hB hq hn hes hsn hks hl0 hx hk hsx hkv bf
    go_wp2_with fail
    go_region_held3 (fun w' => w'.cell? ⟨g2, o2, none⟩ = some (.int .u8 5) ∧ w'.cell? ⟨g2, o2 + 1, none⟩ = some (.int .i64 0) ∧ w'.cell? ⟨g2, o2 + 2, none⟩ = some (.string ⟨#[]⟩) ∧ w'.cell? ⟨g2, o2 + 3, none⟩ = some (.slice A10 N10 c10) ∧ w'.cell? ⟨g2, o2 + 4, none⟩ = some (.bool false) ∧ w'.cell? ⟨B, 0, none⟩ = some (.int .u8 5) ∧ w'.cell? ⟨B, 1, none⟩ = some (.int .i64 0) ∧ w'.cell? ⟨B, 2, none⟩ = some (.string ⟨#[]⟩) ∧ w'.cell? ⟨B, 3, none⟩ = some (.slice (some ⟨q, 0, none⟩) 2 2) ∧ w'.cell? ⟨B, 4, none⟩ = some (.bool false)) (first | (with_reducible exact ⟨t0, t1, t2, t3, t4, b0, b1, b2, b3, b4⟩) | (with_reducible exact ⟨r0, r1, r2, r3, r4, s0, s1, s2, s3, s4⟩) | go_keep)
      (first
        | (go_at_call 24; refine (same_calls (lst [sym quoteT, x] false) (lst [sym quoteT, x] false) All (.slice A10 N10 c10) (.slice (some ⟨q, 0, none⟩) 2 2) _ (HKD.out.new (Upd.refl (fun _ => False) wc).drew) (HSB.out.new (Upd.refl (fun _ => False) wc).drew)).mono ?_; rintro e w18 ⟨rfl, hu18⟩; replace hu18 := Upd.trans ((Upd.refl (fun _ => False) wc).drew) hu18; have r0 := hu18.cell t0 (fun x => x); have r1 := hu18.cell t1 (fun x => x); have r2 := hu18.cell t2 (fun x => x); have r3 := hu18.cell t3 (fun x => x); have r4 := hu18.cell t4 (fun x => x); have s0 := hu18.cell b0 (fun x => x); have s1 := hu18.cell b1 (fun x => x); have s2 := hu18.cell b2 (fun x => x); have s3 := hu18.cell b3 (fun x => x); have s4 := hu18.cell b4 (fun x => x); have HU18 := Lib.hid (HN.out.trans hu18); clear hu18))
    rw [sameB_true rfl]
    go_wp2_with fail
    go_ret
    exact ⟨rfl, HU18.out⟩
set_option maxHeartbeats 8000000 in
set_option maxRecDepth 20000 in
theorem tails_61_ok_ok (v v2 : Value) (x : Dat) (l m : List Dat) (w : World) (hv : SeesB w v (x :: l)) (hv2 : SeesB w v2 m) (h : ¬ leftL (x :: l) 200000 0 < 0) (hh2 : ¬ leftL m 200000 0 < 0) (he : writeE (x :: l) = 0) (hf : writeE m = 0) (hlong : (textW (x :: l)).size + (textW m).size ≤ 60000) (pl1 : Int) (h1 : RdNo (s1T (textW (x :: l)) (textW m)) 61 pl1) (h2 : RdOk (s2T (textW (x :: l)) (textW m)) [lst (x :: l ++ m) false]) (h3 : RdOk (s3T (textW (x :: l))) (lst [sym quoteT, x] false :: l)) : Calls Try.prog 8 #[v, v2] w fun e w' => e = .returned (.bool true) ∧ New w w' := by
  obtain ⟨m1, m2, m3, m4⟩ := much_not h
  obtain ⟨n1, n2, n3, n4⟩ := much_not hh2
  obtain ⟨es, hes, hsn, -⟩ := hv.inv
  obtain ⟨A, c, hvv⟩ := hsn.form
  have hll : es.length = l.length + 1 := by have := congrArg List.length hes; simp at this; omega
  rw [hll] at hvv
  subst hvv
  clear hes hsn hll
  have HMU := Lib.hid (fun w' (hn : New w w') => much_calls (x :: l) _ w' (hv.new hn))
  have HMU2 := Lib.hid (fun w' (hn : New w w') => much_calls m v2 w' (hv2.new hn))
  have hd : decide (leftL (x :: l) 200000 0 < 0) = false := decide_eq_false h
  have hd2 : decide (leftL m 200000 0 < 0) = false := decide_eq_false hh2
  rw [hd] at HMU
  rw [hd2] at HMU2
  have hle : (((l.length + 1 : Nat) : Int) == 0) = false := by simp; omega
  have hlp : (0 : Int) < ((l.length + 1 : Nat) : Int) := by omega
  have HV := Lib.hid (fun w' (hn : New w w') => (hv.sees (by omega)).new hn)
  have HV2 := Lib.hid (fun w' (hn : New w w') => (hv2.sees (by omega)).new hn)
  have HW1 := Lib.hid (fun w' (hn : New w w') => write_all (HV.out w' hn) m2 (by omega) (by omega))
  have HW2 := Lib.hid (fun w' (hn : New w w') => write_all (HV2.out w' hn) n2 (by omega) (by omega))
  rw [writeT, if_pos he, he] at HW1
  rw [writeT, if_pos hf, hf] at HW2
  have hml := (may_of he).2
  have hmm := (may_of hf).2
  have HMA := Lib.hid (show manyL [lst (x :: l ++ m) false] ≤ 2000000 by rw [manyL, manyL, lst, Dat.many, manyL_append]; omega)
  have HMB := Lib.hid (show manyL (lst [sym quoteT, x] false :: l) ≤ 2000000 by rw [manyL] at hml ⊢; rw [lst, Dat.many, manyL, manyL, manyL, sym, Dat.many, manyL]; omega)
  generalize textW (x :: l) = T1 at *
  generalize textW m = T2 at *
  have hq1 : ((T1.size : Int) + T2.size) ≤ 60000 := by omega
  have hq2 : decide (60000 < T1.size + T2.size) = false := decide_eq_false (by omega)
  have hq3 : ¬ (60000 : Int) < (T1.size : Int) + T2.size := by omega
  have H1 := Lib.hid h1
  have H2 := Lib.hid h2
  have H3 := Lib.hid h3
  unfold RdNo s1T at H1
  unfold RdOk s2T at H2
  unfold RdOk s3T at H3
  clear h hh2 h1 h2 h3 hd hd2 hv hv2 m1 m2 m3 m4 n1 n2 n3 n4 he hf hlong hml hmm
  go_enter Try.func8, Try.ntmps8
  go_wp2_with fail
  refine (works_calls _).mono ?_
  rintro e w1 ⟨rfl, hu1⟩
  have HU1 := Lib.hid hu1
  clear hu1
  go_wp2_with fail
  refine (HMU.out _ HU1.out).mono ?_
  rintro e w2 ⟨rfl, hu2⟩
  have HU2 := Lib.hid (HU1.out.trans hu2)
  clear hu2
  go_wp2_with fail
  refine (HMU2.out _ HU2.out).mono ?_
  rintro e w3 ⟨rfl, hu3⟩
  have HU3 := Lib.hid (HU2.out.trans hu3)
  clear hu3
  go_wp2_with fail
  refine (HW1.out _ HU3.out).mono ?_
  rintro e w4 ⟨rfl, hu4⟩
  have HU4 := Lib.hid (HU3.out.trans hu4)
  clear hu4
  go_wp2_with fail
  refine (HW2.out _ HU4.out).mono ?_
  rintro e w5 ⟨rfl, hu5⟩
  have HU5 := Lib.hid (HU4.out.trans hu5)
  clear hu5
  go_wp2_with fail
  refine (H1.out _).mono ?_
  rintro e w6 ⟨rfl, hu6⟩
  have HU6 := Lib.hid (HU5.out.trans hu6)
  clear hu6
  go_wp2_with fail
  refine (H2.out _).mono ?_
  rintro e w7 ⟨A7, c7, bs7, rfl, hu7, ho7, -⟩
  have HU7 := Lib.hid (HU6.out.trans hu7)
  have HO7 := Lib.hid (own_sees ho7 HMA.out)
  have HU8 := HU7
  clear hu7 ho7
  go_wp2_with fail
  refine (H3.out _).mono ?_
  rintro e w9 ⟨A9, c9, bs9, rfl, hu9, ho9, -⟩
  have HU9 := Lib.hid (HU8.out.trans hu9)
  have HO9 := Lib.hid (own_sees ho9 HMB.out)
  clear hu9 ho9
  have hlw := HV.out _ HU9.out
  obtain ⟨es, hes, hsn, -, hks⟩ := hlw.inv
  have hl0 : 0 < es.length := by have := congrArg List.length hes; simp at this; omega
  obtain ⟨g, o, cc, hA, -, hltg, x0, x1, x2, x3, x4⟩ := hsn.at 0 hl0
  simp only [Value.slice.injEq] at hA
  obtain ⟨rfl, -, -⟩ := hA
  have hx : es[0].d = x := by
    have := congrArg (fun l => l[0]?) hes
    simpa [List.getElem?_eq_getElem hl0] using this.symm
  have hk := hks es[0] (List.getElem_mem hl0)
  obtain ⟨esx, -, hsx, -⟩ := hk.inv
  obtain ⟨A4, c4, hkv⟩ := hsx.form
  rw [hx] at x0 x1 x2 x4 hk
  rw [hkv] at x3 hk
  generalize esx.length = N4 at *
  simp only [Nat.zero_mul, Nat.add_zero] at x0 x1 x2 x3 x4
  have HK := Lib.hid hk
  clear hlw hes hsn hks hl0 hx hk hsx hkv
  go_wp2_with fail
  have HE1 : Hid ((w9.alloc (.cells #[.int .u8 0, .int .i64 0, .string ⟨#[]⟩, .slice none 0 0, .bool false] 58)).drew.heap[w9.heap.size]? = some (.cells #[.int .u8 0, .int .i64 0, .string ⟨#[]⟩, .slice none 0 0, .bool false] 58 (0, 0))) := Lib.hid (heap_alloc_new w9 (.cells #[.int .u8 0, .int .i64 0, .string ⟨#[]⟩, .slice none 0 0, .bool false] 58))
  go_cut [21] (fun s21 wx => ∃ B q : Nat, s21 = .pointer (some ⟨B, 0, none⟩) ∧ wx.heap[B]? = some (.cells #[.int .u8 5, .int .i64 0, .string ⟨#[]⟩, .slice (some ⟨q, 0, none⟩) 2 2, .bool false] 58 (0, 0)) ∧ wx.heap[q]? = some (.cells #[.int .u8 2, .int .i64 0, .string ⟨#[113, 117, 111, 116, 101]⟩, .slice none 0 0, .bool false, .int .u8 x.k, .int .i64 x.n, .string x.t, .slice A4 N4 c4, .bool x.dot] 58 (0, 0)) ∧ New w9 wx)
  case first =>
    go_region_held3 (fun w' => w'.cell? ⟨g, o, none⟩ = some (.int .u8 x.k) ∧ w'.cell? ⟨g, o + 1, none⟩ = some (.int .i64 x.n) ∧ w'.cell? ⟨g, o + 2, none⟩ = some (.string x.t) ∧ w'.cell? ⟨g, o + 3, none⟩ = some (.slice A4 N4 c4) ∧ w'.cell? ⟨g, o + 4, none⟩ = some (.bool x.dot)) (first | (with_reducible exact ⟨x0, x1, x2, x3, x4⟩) | (with_reducible exact ⟨y0, y1, y2, y3, y4⟩) | (with_reducible exact ⟨z0, z1, z2, z3, z4⟩) | (with_reducible exact ⟨keep5 z0 (by omega), keep5 z1 (by omega), keep5 z2 (by omega), keep5 z3 (by omega), keep5 z4 (by omega)⟩) | go_keep)
      (first
        | (go_at_call 29; refine (symbol_calls ⟨#[113, 117, 111, 116, 101]⟩ _).mono ?_; rintro e w15 ⟨rfl, hu15⟩; have hv15 := Upd.trans (a := w9) (by repeat (with_reducible first | exact Upd.refl (fun _ => False) _ | refine Upd.alloc ?_ _ | refine Upd.drew ?_)) hu15; have y0 := hv15.cell x0 (fun x => x); have y1 := hv15.cell x1 (fun x => x); have y2 := hv15.cell x2 (fun x => x); have y3 := hv15.cell x3 (fun x => x); have y4 := hv15.cell x4 (fun x => x); (first | ((with_reducible have hb15 := Upd.heap hu15 (k := w9.heap.size) (HE1.out) (fun x => x)); obtain ⟨⟨p0, p1, p2, p3, p4⟩, pf⟩ := blk5 hb15; have HB15 := Lib.hid hb15; have hl15 := (Array.getElem?_eq_some_iff.1 hb15).1; clear hb15) | skip); have HU15 := Lib.hid hv15; have hz15 := hv15.size; clear hu15 hv15)
        | (go_at_call 28; refine (list_calls _ _ _ _).mono ?_; rintro e w16 ⟨rfl, hu16⟩; have hv16 := Upd.trans (a := w15) (by repeat (with_reducible first | exact Upd.refl (fun _ => False) _ | refine Upd.alloc ?_ _ | refine Upd.drew ?_)) hu16; have z0 := hv16.cell y0 (fun x => x); have z1 := hv16.cell y1 (fun x => x); have z2 := hv16.cell y2 (fun x => x); have z3 := hv16.cell y3 (fun x => x); have z4 := hv16.cell y4 (fun x => x); (first | ((with_reducible have hb16 := Upd.heap hu16 (k := w9.heap.size) (halloc HB15.out _) (fun x => x)); obtain ⟨⟨p0, p1, p2, p3, p4⟩, pf⟩ := blk5 hb16; have HB16 := Lib.hid hb16; have hl16 := (Array.getElem?_eq_some_iff.1 hb16).1; clear hb16) | ((with_reducible have hb16 := Upd.heap hu16 (k := w15.heap.size) (alloc1 w15 (.cells #[.int .u8 0, .int .i64 0, .string ⟨#[]⟩, .slice none 0 0, .bool false] 58) (.cells #[.int .u8 2, .int .i64 0, .string ⟨#[113, 117, 111, 116, 101]⟩, .slice none 0 0, .bool false, .int .u8 x.k, .int .i64 x.n, .string x.t, .slice A4 N4 c4, .bool x.dot] 58)) (fun x => x)); obtain ⟨⟨p0, p1, p2, p3, p4⟩, pf⟩ := blk5 hb16; have HB16 := Lib.hid hb16; have hl16 := (Array.getElem?_eq_some_iff.1 hb16).1; clear hb16) | ((with_reducible have hb16 := Upd.heap hu16 (k := w15.heap.size + 1) (alloc2 w15 (.cells #[.int .u8 2, .int .i64 0, .string ⟨#[113, 117, 111, 116, 101]⟩, .slice none 0 0, .bool false, .int .u8 x.k, .int .i64 x.n, .string x.t, .slice A4 N4 c4, .bool x.dot] 58) (.cells #[.int .u8 0, .int .i64 0, .string ⟨#[]⟩, .slice none 0 0, .bool false] 58)) (fun x => x)); obtain ⟨⟨p0, p1, p2, p3, p4⟩, pf⟩ := blk5 hb16; have HB16 := Lib.hid hb16; have hl16 := (Array.getElem?_eq_some_iff.1 hb16).1; clear hb16) | skip); have HU16 := Lib.hid (HU15.out.trans hv16); (first | (with_reducible have HQ16 := Lib.hid (Upd.heap hu16 (k := w15.heap.size) (heap_alloc_new w15 (.cells #[.int .u8 2, .int .i64 0, .string ⟨#[113, 117, 111, 116, 101]⟩, .slice none 0 0, .bool false, .int .u8 x.k, .int .i64 x.n, .string x.t, .slice A4 N4 c4, .bool x.dot] 58)) (fun x => x))) | (with_reducible have HQ16 := Lib.hid (Upd.heap hu16 (k := w15.heap.size + 1) (alloc2 w15 (.cells #[.int .u8 0, .int .i64 0, .string ⟨#[]⟩, .slice none 0 0, .bool false] 58) (.cells #[.int .u8 2, .int .i64 0, .string ⟨#[113, 117, 111, 116, 101]⟩, .slice none 0 0, .bool false, .int .u8 x.k, .int .i64 x.n, .string x.t, .slice A4 N4 c4, .bool x.dot] 58)) (fun x => x))) | (with_reducible have HQ16 := Lib.hid (Upd.heap hu16 (k := w15.heap.size) (alloc1 w15 (.cells #[.int .u8 2, .int .i64 0, .string ⟨#[113, 117, 111, 116, 101]⟩, .slice none 0 0, .bool false, .int .u8 x.k, .int .i64 x.n, .string x.t, .slice A4 N4 c4, .bool x.dot] 58) (.cells #[.int .u8 0, .int .i64 0, .string ⟨#[]⟩, .slice none 0 0, .bool false] 58)) (fun x => x)))); have hz16 := hv16.size; clear hu16 hv16))
    all_goals go_wp2_with fail
    all_goals go_meet
    all_goals (first | (with_reducible exact ⟨_, _, rfl, heap_alloc_new w16 _, halloc HQ16.out _, Upd.alloc HU16.out _⟩) | exact ⟨_, _, rfl, fin5 HB16.out HQ16.out HU16.out (by omega) (by omega) _ _ _ _ _⟩)
  case rest =>
    obtain ⟨B, q, rfl, hB, hq, hn⟩ := hcut
    have hkx := HK.out.new hn
    have hsb := sees_block (c := 2) [⟨sym quoteT, .slice none 0 0, []⟩, ⟨x, .slice A4 N4 c4, []⟩] hq rfl (by simp) (fun e he => by
      simp only [List.mem_cons, List.not_mem_nil, or_false] at he
      rcases he with rfl | rfl
      · exact sees_nil _ _ _ _
      · exact hkx)
    have HSB := Lib.hid hsb
    obtain ⟨⟨b0, b1, b2, b3, b4⟩, bf⟩ := blk5 hB
    obtain ⟨es, hes, hsn, -, hks⟩ := (HO9.out.new hn).inv
    have hl0 : 0 < es.length := by have := congrArg List.length hes; simp at this; omega
    obtain ⟨g2, o2, cc2, hA2, -, -, t0, t1, t2, t3, t4⟩ := hsn.at 0 hl0
    simp only [Value.slice.injEq] at hA2
    obtain ⟨rfl, -, -⟩ := hA2
    have hx : es[0].d = lst [sym quoteT, x] false := by
      have := congrArg (fun l => l[0]?) hes
      simpa [List.getElem?_eq_getElem hl0] using this.symm
    have hk := hks es[0] (List.getElem_mem hl0)
    obtain ⟨esx, -, hsx, -⟩ := hk.inv
    obtain ⟨A10, c10, hkv⟩ := hsx.form
    rw [hx] at t0 t1 t2 t4 hk
    rw [hkv] at t3 hk
    generalize esx.length = N10 at *
    simp only [Nat.zero_mul, Nat.add_zero] at t0 t1 t2 t3 t4
    replace t0 : wc.cell? ⟨g2, o2, none⟩ = some (.int .u8 5) := t0
    replace t1 : wc.cell? ⟨g2, o2 + 1, none⟩ = some (.int .i64 0) := t1
    replace t2 : wc.cell? ⟨g2, o2 + 2, none⟩ = some (.string ⟨#[]⟩) := t2
    replace t4 : wc.cell? ⟨g2, o2 + 4, none⟩ = some (.bool false) := t4
    have HKD := Lib.hid (show Sees wc All (.slice A10 N10 c10) [sym quoteT, x] from hk)
    have HN := Lib.hid (HU9.out.trans hn)
    clear hkx hsb hB hq hn hes hsn hks hl0 hx hk hsx hkv bf
    go_wp2_with fail
    go_region_held3 (fun w' => w'.cell? ⟨g2, o2, none⟩ = some (.int .u8 5) ∧ w'.cell? ⟨g2, o2 + 1, none⟩ = some (.int .i64 0) ∧ w'.cell? ⟨g2, o2 + 2, none⟩ = some (.string ⟨#[]⟩) ∧ w'.cell? ⟨g2, o2 + 3, none⟩ = some (.slice A10 N10 c10) ∧ w'.cell? ⟨g2, o2 + 4, none⟩ = some (.bool false) ∧ w'.cell? ⟨B, 0, none⟩ = some (.int .u8 5) ∧ w'.cell? ⟨B, 1, none⟩ = some (.int .i64 0) ∧ w'.cell? ⟨B, 2, none⟩ = some (.string ⟨#[]⟩) ∧ w'.cell? ⟨B, 3, none⟩ = some (.slice (some ⟨q, 0, none⟩) 2 2) ∧ w'.cell? ⟨B, 4, none⟩ = some (.bool false)) (first | (with_reducible exact ⟨t0, t1, t2, t3, t4, b0, b1, b2, b3, b4⟩) | (with_reducible exact ⟨r0, r1, r2, r3, r4, s0, s1, s2, s3, s4⟩) | go_keep)
      (first
        | (go_at_call 24; refine (same_calls (lst [sym quoteT, x] false) (lst [sym quoteT, x] false) All (.slice A10 N10 c10) (.slice (some ⟨q, 0, none⟩) 2 2) _ (HKD.out.new (Upd.refl (fun _ => False) wc).drew) (HSB.out.new (Upd.refl (fun _ => False) wc).drew)).mono ?_; rintro e w18 ⟨rfl, hu18⟩; replace hu18 := Upd.trans ((Upd.refl (fun _ => False) wc).drew) hu18; have r0 := hu18.cell t0 (fun x => x); have r1 := hu18.cell t1 (fun x => x); have r2 := hu18.cell t2 (fun x => x); have r3 := hu18.cell t3 (fun x => x); have r4 := hu18.cell t4 (fun x => x); have s0 := hu18.cell b0 (fun x => x); have s1 := hu18.cell b1 (fun x => x); have s2 := hu18.cell b2 (fun x => x); have s3 := hu18.cell b3 (fun x => x); have s4 := hu18.cell b4 (fun x => x); have HU18 := Lib.hid (HN.out.trans hu18); clear hu18))
    rw [sameB_true rfl]
    go_wp2_with fail
    go_ret
    exact ⟨rfl, HU18.out⟩
set_option maxHeartbeats 8000000 in
set_option maxRecDepth 20000 in
theorem tails_61_no_ok (v v2 : Value) (x : Dat) (l m : List Dat) (w : World) (hv : SeesB w v (x :: l)) (hv2 : SeesB w v2 m) (h : ¬ leftL (x :: l) 200000 0 < 0) (hh2 : ¬ leftL m 200000 0 < 0) (he : writeE (x :: l) = 0) (hf : writeE m = 0) (hlong : (textW (x :: l)).size + (textW m).size ≤ 60000) (pl1 : Int) (h1 : RdNo (s1T (textW (x :: l)) (textW m)) 61 pl1) (er2 pl2 : Int) (hr2 : (er2 == 0) = false) (h2 : RdNo (s2T (textW (x :: l)) (textW m)) er2 pl2) (h3 : RdOk (s3T (textW (x :: l))) (lst [sym quoteT, x] false :: l)) : Calls Try.prog 8 #[v, v2] w fun e w' => e = .returned (.bool true) ∧ New w w' := by
  obtain ⟨m1, m2, m3, m4⟩ := much_not h
  obtain ⟨n1, n2, n3, n4⟩ := much_not hh2
  obtain ⟨es, hes, hsn, -⟩ := hv.inv
  obtain ⟨A, c, hvv⟩ := hsn.form
  have hll : es.length = l.length + 1 := by have := congrArg List.length hes; simp at this; omega
  rw [hll] at hvv
  subst hvv
  clear hes hsn hll
  have HMU := Lib.hid (fun w' (hn : New w w') => much_calls (x :: l) _ w' (hv.new hn))
  have HMU2 := Lib.hid (fun w' (hn : New w w') => much_calls m v2 w' (hv2.new hn))
  have hd : decide (leftL (x :: l) 200000 0 < 0) = false := decide_eq_false h
  have hd2 : decide (leftL m 200000 0 < 0) = false := decide_eq_false hh2
  rw [hd] at HMU
  rw [hd2] at HMU2
  have hle : (((l.length + 1 : Nat) : Int) == 0) = false := by simp; omega
  have hlp : (0 : Int) < ((l.length + 1 : Nat) : Int) := by omega
  have HV := Lib.hid (fun w' (hn : New w w') => (hv.sees (by omega)).new hn)
  have HV2 := Lib.hid (fun w' (hn : New w w') => (hv2.sees (by omega)).new hn)
  have HW1 := Lib.hid (fun w' (hn : New w w') => write_all (HV.out w' hn) m2 (by omega) (by omega))
  have HW2 := Lib.hid (fun w' (hn : New w w') => write_all (HV2.out w' hn) n2 (by omega) (by omega))
  rw [writeT, if_pos he, he] at HW1
  rw [writeT, if_pos hf, hf] at HW2
  have hml := (may_of he).2
  have hmm := (may_of hf).2
  have HMA := Lib.hid (show manyL [lst (x :: l ++ m) false] ≤ 2000000 by rw [manyL, manyL, lst, Dat.many, manyL_append]; omega)
  have HMB := Lib.hid (show manyL (lst [sym quoteT, x] false :: l) ≤ 2000000 by rw [manyL] at hml ⊢; rw [lst, Dat.many, manyL, manyL, manyL, sym, Dat.many, manyL]; omega)
  generalize textW (x :: l) = T1 at *
  generalize textW m = T2 at *
  have hq1 : ((T1.size : Int) + T2.size) ≤ 60000 := by omega
  have hq2 : decide (60000 < T1.size + T2.size) = false := decide_eq_false (by omega)
  have hq3 : ¬ (60000 : Int) < (T1.size : Int) + T2.size := by omega
  have H1 := Lib.hid h1
  have H2 := Lib.hid h2
  have H3 := Lib.hid h3
  unfold RdNo s1T at H1
  unfold RdNo s2T at H2
  unfold RdOk s3T at H3
  clear h hh2 h1 h2 h3 hd hd2 hv hv2 m1 m2 m3 m4 n1 n2 n3 n4 he hf hlong hml hmm
  go_enter Try.func8, Try.ntmps8
  go_wp2_with fail
  refine (works_calls _).mono ?_
  rintro e w1 ⟨rfl, hu1⟩
  have HU1 := Lib.hid hu1
  clear hu1
  go_wp2_with fail
  refine (HMU.out _ HU1.out).mono ?_
  rintro e w2 ⟨rfl, hu2⟩
  have HU2 := Lib.hid (HU1.out.trans hu2)
  clear hu2
  go_wp2_with fail
  refine (HMU2.out _ HU2.out).mono ?_
  rintro e w3 ⟨rfl, hu3⟩
  have HU3 := Lib.hid (HU2.out.trans hu3)
  clear hu3
  go_wp2_with fail
  refine (HW1.out _ HU3.out).mono ?_
  rintro e w4 ⟨rfl, hu4⟩
  have HU4 := Lib.hid (HU3.out.trans hu4)
  clear hu4
  go_wp2_with fail
  refine (HW2.out _ HU4.out).mono ?_
  rintro e w5 ⟨rfl, hu5⟩
  have HU5 := Lib.hid (HU4.out.trans hu5)
  clear hu5
  go_wp2_with fail
  refine (H1.out _).mono ?_
  rintro e w6 ⟨rfl, hu6⟩
  have HU6 := Lib.hid (HU5.out.trans hu6)
  clear hu6
  go_wp2_with fail
  refine (H2.out _).mono ?_
  rintro e w7 ⟨rfl, hu7⟩
  have HU7 := Lib.hid (HU6.out.trans hu7)
  have HU8 := HU7
  clear hu7
  go_wp2_with fail
  refine (H3.out _).mono ?_
  rintro e w9 ⟨A9, c9, bs9, rfl, hu9, ho9, -⟩
  have HU9 := Lib.hid (HU8.out.trans hu9)
  have HO9 := Lib.hid (own_sees ho9 HMB.out)
  clear hu9 ho9
  have hlw := HV.out _ HU9.out
  obtain ⟨es, hes, hsn, -, hks⟩ := hlw.inv
  have hl0 : 0 < es.length := by have := congrArg List.length hes; simp at this; omega
  obtain ⟨g, o, cc, hA, -, hltg, x0, x1, x2, x3, x4⟩ := hsn.at 0 hl0
  simp only [Value.slice.injEq] at hA
  obtain ⟨rfl, -, -⟩ := hA
  have hx : es[0].d = x := by
    have := congrArg (fun l => l[0]?) hes
    simpa [List.getElem?_eq_getElem hl0] using this.symm
  have hk := hks es[0] (List.getElem_mem hl0)
  obtain ⟨esx, -, hsx, -⟩ := hk.inv
  obtain ⟨A4, c4, hkv⟩ := hsx.form
  rw [hx] at x0 x1 x2 x4 hk
  rw [hkv] at x3 hk
  generalize esx.length = N4 at *
  simp only [Nat.zero_mul, Nat.add_zero] at x0 x1 x2 x3 x4
  have HK := Lib.hid hk
  clear hlw hes hsn hks hl0 hx hk hsx hkv
  go_wp2_with fail
  have HE1 : Hid ((w9.alloc (.cells #[.int .u8 0, .int .i64 0, .string ⟨#[]⟩, .slice none 0 0, .bool false] 58)).drew.heap[w9.heap.size]? = some (.cells #[.int .u8 0, .int .i64 0, .string ⟨#[]⟩, .slice none 0 0, .bool false] 58 (0, 0))) := Lib.hid (heap_alloc_new w9 (.cells #[.int .u8 0, .int .i64 0, .string ⟨#[]⟩, .slice none 0 0, .bool false] 58))
  go_cut [21] (fun s21 wx => ∃ B q : Nat, s21 = .pointer (some ⟨B, 0, none⟩) ∧ wx.heap[B]? = some (.cells #[.int .u8 5, .int .i64 0, .string ⟨#[]⟩, .slice (some ⟨q, 0, none⟩) 2 2, .bool false] 58 (0, 0)) ∧ wx.heap[q]? = some (.cells #[.int .u8 2, .int .i64 0, .string ⟨#[113, 117, 111, 116, 101]⟩, .slice none 0 0, .bool false, .int .u8 x.k, .int .i64 x.n, .string x.t, .slice A4 N4 c4, .bool x.dot] 58 (0, 0)) ∧ New w9 wx)
  case first =>
    go_region_held3 (fun w' => w'.cell? ⟨g, o, none⟩ = some (.int .u8 x.k) ∧ w'.cell? ⟨g, o + 1, none⟩ = some (.int .i64 x.n) ∧ w'.cell? ⟨g, o + 2, none⟩ = some (.string x.t) ∧ w'.cell? ⟨g, o + 3, none⟩ = some (.slice A4 N4 c4) ∧ w'.cell? ⟨g, o + 4, none⟩ = some (.bool x.dot)) (first | (with_reducible exact ⟨x0, x1, x2, x3, x4⟩) | (with_reducible exact ⟨y0, y1, y2, y3, y4⟩) | (with_reducible exact ⟨z0, z1, z2, z3, z4⟩) | (with_reducible exact ⟨keep5 z0 (by omega), keep5 z1 (by omega), keep5 z2 (by omega), keep5 z3 (by omega), keep5 z4 (by omega)⟩) | go_keep)
      (first
        | (go_at_call 29; refine (symbol_calls ⟨#[113, 117, 111, 116, 101]⟩ _).mono ?_; rintro e w15 ⟨rfl, hu15⟩; have hv15 := Upd.trans (a := w9) (by repeat (with_reducible first | exact Upd.refl (fun _ => False) _ | refine Upd.alloc ?_ _ | refine Upd.drew ?_)) hu15; have y0 := hv15.cell x0 (fun x => x); have y1 := hv15.cell x1 (fun x => x); have y2 := hv15.cell x2 (fun x => x); have y3 := hv15.cell x3 (fun x => x); have y4 := hv15.cell x4 (fun x => x); (first | ((with_reducible have hb15 := Upd.heap hu15 (k := w9.heap.size) (HE1.out) (fun x => x)); obtain ⟨⟨p0, p1, p2, p3, p4⟩, pf⟩ := blk5 hb15; have HB15 := Lib.hid hb15; have hl15 := (Array.getElem?_eq_some_iff.1 hb15).1; clear hb15) | skip); have HU15 := Lib.hid hv15; have hz15 := hv15.size; clear hu15 hv15)
        | (go_at_call 28; refine (list_calls _ _ _ _).mono ?_; rintro e w16 ⟨rfl, hu16⟩; have hv16 := Upd.trans (a := w15) (by repeat (with_reducible first | exact Upd.refl (fun _ => False) _ | refine Upd.alloc ?_ _ | refine Upd.drew ?_)) hu16; have z0 := hv16.cell y0 (fun x => x); have z1 := hv16.cell y1 (fun x => x); have z2 := hv16.cell y2 (fun x => x); have z3 := hv16.cell y3 (fun x => x); have z4 := hv16.cell y4 (fun x => x); (first | ((with_reducible have hb16 := Upd.heap hu16 (k := w9.heap.size) (halloc HB15.out _) (fun x => x)); obtain ⟨⟨p0, p1, p2, p3, p4⟩, pf⟩ := blk5 hb16; have HB16 := Lib.hid hb16; have hl16 := (Array.getElem?_eq_some_iff.1 hb16).1; clear hb16) | ((with_reducible have hb16 := Upd.heap hu16 (k := w15.heap.size) (alloc1 w15 (.cells #[.int .u8 0, .int .i64 0, .string ⟨#[]⟩, .slice none 0 0, .bool false] 58) (.cells #[.int .u8 2, .int .i64 0, .string ⟨#[113, 117, 111, 116, 101]⟩, .slice none 0 0, .bool false, .int .u8 x.k, .int .i64 x.n, .string x.t, .slice A4 N4 c4, .bool x.dot] 58)) (fun x => x)); obtain ⟨⟨p0, p1, p2, p3, p4⟩, pf⟩ := blk5 hb16; have HB16 := Lib.hid hb16; have hl16 := (Array.getElem?_eq_some_iff.1 hb16).1; clear hb16) | ((with_reducible have hb16 := Upd.heap hu16 (k := w15.heap.size + 1) (alloc2 w15 (.cells #[.int .u8 2, .int .i64 0, .string ⟨#[113, 117, 111, 116, 101]⟩, .slice none 0 0, .bool false, .int .u8 x.k, .int .i64 x.n, .string x.t, .slice A4 N4 c4, .bool x.dot] 58) (.cells #[.int .u8 0, .int .i64 0, .string ⟨#[]⟩, .slice none 0 0, .bool false] 58)) (fun x => x)); obtain ⟨⟨p0, p1, p2, p3, p4⟩, pf⟩ := blk5 hb16; have HB16 := Lib.hid hb16; have hl16 := (Array.getElem?_eq_some_iff.1 hb16).1; clear hb16) | skip); have HU16 := Lib.hid (HU15.out.trans hv16); (first | (with_reducible have HQ16 := Lib.hid (Upd.heap hu16 (k := w15.heap.size) (heap_alloc_new w15 (.cells #[.int .u8 2, .int .i64 0, .string ⟨#[113, 117, 111, 116, 101]⟩, .slice none 0 0, .bool false, .int .u8 x.k, .int .i64 x.n, .string x.t, .slice A4 N4 c4, .bool x.dot] 58)) (fun x => x))) | (with_reducible have HQ16 := Lib.hid (Upd.heap hu16 (k := w15.heap.size + 1) (alloc2 w15 (.cells #[.int .u8 0, .int .i64 0, .string ⟨#[]⟩, .slice none 0 0, .bool false] 58) (.cells #[.int .u8 2, .int .i64 0, .string ⟨#[113, 117, 111, 116, 101]⟩, .slice none 0 0, .bool false, .int .u8 x.k, .int .i64 x.n, .string x.t, .slice A4 N4 c4, .bool x.dot] 58)) (fun x => x))) | (with_reducible have HQ16 := Lib.hid (Upd.heap hu16 (k := w15.heap.size) (alloc1 w15 (.cells #[.int .u8 2, .int .i64 0, .string ⟨#[113, 117, 111, 116, 101]⟩, .slice none 0 0, .bool false, .int .u8 x.k, .int .i64 x.n, .string x.t, .slice A4 N4 c4, .bool x.dot] 58) (.cells #[.int .u8 0, .int .i64 0, .string ⟨#[]⟩, .slice none 0 0, .bool false] 58)) (fun x => x)))); have hz16 := hv16.size; clear hu16 hv16))
    all_goals go_wp2_with fail
    all_goals go_meet
    all_goals (first | (with_reducible exact ⟨_, _, rfl, heap_alloc_new w16 _, halloc HQ16.out _, Upd.alloc HU16.out _⟩) | exact ⟨_, _, rfl, fin5 HB16.out HQ16.out HU16.out (by omega) (by omega) _ _ _ _ _⟩)
  case rest =>
    obtain ⟨B, q, rfl, hB, hq, hn⟩ := hcut
    have hkx := HK.out.new hn
    have hsb := sees_block (c := 2) [⟨sym quoteT, .slice none 0 0, []⟩, ⟨x, .slice A4 N4 c4, []⟩] hq rfl (by simp) (fun e he => by
      simp only [List.mem_cons, List.not_mem_nil, or_false] at he
      rcases he with rfl | rfl
      · exact sees_nil _ _ _ _
      · exact hkx)
    have HSB := Lib.hid hsb
    obtain ⟨⟨b0, b1, b2, b3, b4⟩, bf⟩ := blk5 hB
    obtain ⟨es, hes, hsn, -, hks⟩ := (HO9.out.new hn).inv
    have hl0 : 0 < es.length := by have := congrArg List.length hes; simp at this; omega
    obtain ⟨g2, o2, cc2, hA2, -, -, t0, t1, t2, t3, t4⟩ := hsn.at 0 hl0
    simp only [Value.slice.injEq] at hA2
    obtain ⟨rfl, -, -⟩ := hA2
    have hx : es[0].d = lst [sym quoteT, x] false := by
      have := congrArg (fun l => l[0]?) hes
      simpa [List.getElem?_eq_getElem hl0] using this.symm
    have hk := hks es[0] (List.getElem_mem hl0)
    obtain ⟨esx, -, hsx, -⟩ := hk.inv
    obtain ⟨A10, c10, hkv⟩ := hsx.form
    rw [hx] at t0 t1 t2 t4 hk
    rw [hkv] at t3 hk
    generalize esx.length = N10 at *
    simp only [Nat.zero_mul, Nat.add_zero] at t0 t1 t2 t3 t4
    replace t0 : wc.cell? ⟨g2, o2, none⟩ = some (.int .u8 5) := t0
    replace t1 : wc.cell? ⟨g2, o2 + 1, none⟩ = some (.int .i64 0) := t1
    replace t2 : wc.cell? ⟨g2, o2 + 2, none⟩ = some (.string ⟨#[]⟩) := t2
    replace t4 : wc.cell? ⟨g2, o2 + 4, none⟩ = some (.bool false) := t4
    have HKD := Lib.hid (show Sees wc All (.slice A10 N10 c10) [sym quoteT, x] from hk)
    have HN := Lib.hid (HU9.out.trans hn)
    clear hkx hsb hB hq hn hes hsn hks hl0 hx hk hsx hkv bf
    go_wp2_with fail
    go_region_held3 (fun w' => w'.cell? ⟨g2, o2, none⟩ = some (.int .u8 5) ∧ w'.cell? ⟨g2, o2 + 1, none⟩ = some (.int .i64 0) ∧ w'.cell? ⟨g2, o2 + 2, none⟩ = some (.string ⟨#[]⟩) ∧ w'.cell? ⟨g2, o2 + 3, none⟩ = some (.slice A10 N10 c10) ∧ w'.cell? ⟨g2, o2 + 4, none⟩ = some (.bool false) ∧ w'.cell? ⟨B, 0, none⟩ = some (.int .u8 5) ∧ w'.cell? ⟨B, 1, none⟩ = some (.int .i64 0) ∧ w'.cell? ⟨B, 2, none⟩ = some (.string ⟨#[]⟩) ∧ w'.cell? ⟨B, 3, none⟩ = some (.slice (some ⟨q, 0, none⟩) 2 2) ∧ w'.cell? ⟨B, 4, none⟩ = some (.bool false)) (first | (with_reducible exact ⟨t0, t1, t2, t3, t4, b0, b1, b2, b3, b4⟩) | (with_reducible exact ⟨r0, r1, r2, r3, r4, s0, s1, s2, s3, s4⟩) | go_keep)
      (first
        | (go_at_call 24; refine (same_calls (lst [sym quoteT, x] false) (lst [sym quoteT, x] false) All (.slice A10 N10 c10) (.slice (some ⟨q, 0, none⟩) 2 2) _ (HKD.out.new (Upd.refl (fun _ => False) wc).drew) (HSB.out.new (Upd.refl (fun _ => False) wc).drew)).mono ?_; rintro e w18 ⟨rfl, hu18⟩; replace hu18 := Upd.trans ((Upd.refl (fun _ => False) wc).drew) hu18; have r0 := hu18.cell t0 (fun x => x); have r1 := hu18.cell t1 (fun x => x); have r2 := hu18.cell t2 (fun x => x); have r3 := hu18.cell t3 (fun x => x); have r4 := hu18.cell t4 (fun x => x); have s0 := hu18.cell b0 (fun x => x); have s1 := hu18.cell b1 (fun x => x); have s2 := hu18.cell b2 (fun x => x); have s3 := hu18.cell b3 (fun x => x); have s4 := hu18.cell b4 (fun x => x); have HU18 := Lib.hid (HN.out.trans hu18); clear hu18))
    rw [sameB_true rfl]
    go_wp2_with fail
    go_ret
    exact ⟨rfl, HU18.out⟩
set_option maxHeartbeats 8000000 in
set_option maxRecDepth 20000 in
theorem tails_62_ok_ok (v v2 : Value) (x : Dat) (l m : List Dat) (w : World) (hv : SeesB w v (x :: l)) (hv2 : SeesB w v2 m) (h : ¬ leftL (x :: l) 200000 0 < 0) (hh2 : ¬ leftL m 200000 0 < 0) (he : writeE (x :: l) = 0) (hf : writeE m = 0) (hlong : (textW (x :: l)).size + (textW m).size ≤ 60000) (pl1 : Int) (h1 : RdNo (s1T (textW (x :: l)) (textW m)) 62 pl1) (h2 : RdOk (s2T (textW (x :: l)) (textW m)) [lst (x :: l ++ m) false]) (h3 : RdOk (s3T (textW (x :: l))) (lst [sym quoteT, x] false :: l)) : Calls Try.prog 8 #[v, v2] w fun e w' => e = .returned (.bool true) ∧ New w w' := by
  obtain ⟨m1, m2, m3, m4⟩ := much_not h
  obtain ⟨n1, n2, n3, n4⟩ := much_not hh2
  obtain ⟨es, hes, hsn, -⟩ := hv.inv
  obtain ⟨A, c, hvv⟩ := hsn.form
  have hll : es.length = l.length + 1 := by have := congrArg List.length hes; simp at this; omega
  rw [hll] at hvv
  subst hvv
  clear hes hsn hll
  have HMU := Lib.hid (fun w' (hn : New w w') => much_calls (x :: l) _ w' (hv.new hn))
  have HMU2 := Lib.hid (fun w' (hn : New w w') => much_calls m v2 w' (hv2.new hn))
  have hd : decide (leftL (x :: l) 200000 0 < 0) = false := decide_eq_false h
  have hd2 : decide (leftL m 200000 0 < 0) = false := decide_eq_false hh2
  rw [hd] at HMU
  rw [hd2] at HMU2
  have hle : (((l.length + 1 : Nat) : Int) == 0) = false := by simp; omega
  have hlp : (0 : Int) < ((l.length + 1 : Nat) : Int) := by omega
  have HV := Lib.hid (fun w' (hn : New w w') => (hv.sees (by omega)).new hn)
  have HV2 := Lib.hid (fun w' (hn : New w w') => (hv2.sees (by omega)).new hn)
  have HW1 := Lib.hid (fun w' (hn : New w w') => write_all (HV.out w' hn) m2 (by omega) (by omega))
  have HW2 := Lib.hid (fun w' (hn : New w w') => write_all (HV2.out w' hn) n2 (by omega) (by omega))
  rw [writeT, if_pos he, he] at HW1
  rw [writeT, if_pos hf, hf] at HW2
  have hml := (may_of he).2
  have hmm := (may_of hf).2
  have HMA := Lib.hid (show manyL [lst (x :: l ++ m) false] ≤ 2000000 by rw [manyL, manyL, lst, Dat.many, manyL_append]; omega)
  have HMB := Lib.hid (show manyL (lst [sym quoteT, x] false :: l) ≤ 2000000 by rw [manyL] at hml ⊢; rw [lst, Dat.many, manyL, manyL, manyL, sym, Dat.many, manyL]; omega)
  generalize textW (x :: l) = T1 at *
  generalize textW m = T2 at *
  have hq1 : ((T1.size : Int) + T2.size) ≤ 60000 := by omega
  have hq2 : decide (60000 < T1.size + T2.size) = false := decide_eq_false (by omega)
  have hq3 : ¬ (60000 : Int) < (T1.size : Int) + T2.size := by omega
  have H1 := Lib.hid h1
  have H2 := Lib.hid h2
  have H3 := Lib.hid h3
  unfold RdNo s1T at H1
  unfold RdOk s2T at H2
  unfold RdOk s3T at H3
  clear h hh2 h1 h2 h3 hd hd2 hv hv2 m1 m2 m3 m4 n1 n2 n3 n4 he hf hlong hml hmm
  go_enter Try.func8, Try.ntmps8
  go_wp2_with fail
  refine (works_calls _).mono ?_
  rintro e w1 ⟨rfl, hu1⟩
  have HU1 := Lib.hid hu1
  clear hu1
  go_wp2_with fail
  refine (HMU.out _ HU1.out).mono ?_
  rintro e w2 ⟨rfl, hu2⟩
  have HU2 := Lib.hid (HU1.out.trans hu2)
  clear hu2
  go_wp2_with fail
  refine (HMU2.out _ HU2.out).mono ?_
  rintro e w3 ⟨rfl, hu3⟩
  have HU3 := Lib.hid (HU2.out.trans hu3)
  clear hu3
  go_wp2_with fail
  refine (HW1.out _ HU3.out).mono ?_
  rintro e w4 ⟨rfl, hu4⟩
  have HU4 := Lib.hid (HU3.out.trans hu4)
  clear hu4
  go_wp2_with fail
  refine (HW2.out _ HU4.out).mono ?_
  rintro e w5 ⟨rfl, hu5⟩
  have HU5 := Lib.hid (HU4.out.trans hu5)
  clear hu5
  go_wp2_with fail
  refine (H1.out _).mono ?_
  rintro e w6 ⟨rfl, hu6⟩
  have HU6 := Lib.hid (HU5.out.trans hu6)
  clear hu6
  go_wp2_with fail
  refine (H2.out _).mono ?_
  rintro e w7 ⟨A7, c7, bs7, rfl, hu7, ho7, -⟩
  have HU7 := Lib.hid (HU6.out.trans hu7)
  have HO7 := Lib.hid (own_sees ho7 HMA.out)
  have HU8 := HU7
  clear hu7 ho7
  go_wp2_with fail
  refine (H3.out _).mono ?_
  rintro e w9 ⟨A9, c9, bs9, rfl, hu9, ho9, -⟩
  have HU9 := Lib.hid (HU8.out.trans hu9)
  have HO9 := Lib.hid (own_sees ho9 HMB.out)
  clear hu9 ho9
  have hlw := HV.out _ HU9.out
  obtain ⟨es, hes, hsn, -, hks⟩ := hlw.inv
  have hl0 : 0 < es.length := by have := congrArg List.length hes; simp at this; omega
  obtain ⟨g, o, cc, hA, -, hltg, x0, x1, x2, x3, x4⟩ := hsn.at 0 hl0
  simp only [Value.slice.injEq] at hA
  obtain ⟨rfl, -, -⟩ := hA
  have hx : es[0].d = x := by
    have := congrArg (fun l => l[0]?) hes
    simpa [List.getElem?_eq_getElem hl0] using this.symm
  have hk := hks es[0] (List.getElem_mem hl0)
  obtain ⟨esx, -, hsx, -⟩ := hk.inv
  obtain ⟨A4, c4, hkv⟩ := hsx.form
  rw [hx] at x0 x1 x2 x4 hk
  rw [hkv] at x3 hk
  generalize esx.length = N4 at *
  simp only [Nat.zero_mul, Nat.add_zero] at x0 x1 x2 x3 x4
  have HK := Lib.hid hk
  clear hlw hes hsn hks hl0 hx hk hsx hkv
  go_wp2_with fail
  have HE1 : Hid ((w9.alloc (.cells #[.int .u8 0, .int .i64 0, .string ⟨#[]⟩, .slice none 0 0, .bool false] 58)).drew.heap[w9.heap.size]? = some (.cells #[.int .u8 0, .int .i64 0, .string ⟨#[]⟩, .slice none 0 0, .bool false] 58 (0, 0))) := Lib.hid (heap_alloc_new w9 (.cells #[.int .u8 0, .int .i64 0, .string ⟨#[]⟩, .slice none 0 0, .bool false] 58))
  go_cut [21] (fun s21 wx => ∃ B q : Nat, s21 = .pointer (some ⟨B, 0, none⟩) ∧ wx.heap[B]? = some (.cells #[.int .u8 5, .int .i64 0, .string ⟨#[]⟩, .slice (some ⟨q, 0, none⟩) 2 2, .bool false] 58 (0, 0)) ∧ wx.heap[q]? = some (.cells #[.int .u8 2, .int .i64 0, .string ⟨#[113, 117, 111, 116, 101]⟩, .slice none 0 0, .bool false, .int .u8 x.k, .int .i64 x.n, .string x.t, .slice A4 N4 c4, .bool x.dot] 58 (0, 0)) ∧ New w9 wx)
  case first =>
    go_region_held3 (fun w' => w'.cell? ⟨g, o, none⟩ = some (.int .u8 x.k) ∧ w'.cell? ⟨g, o + 1, none⟩ = some (.int .i64 x.n) ∧ w'.cell? ⟨g, o + 2, none⟩ = some (.string x.t) ∧ w'.cell? ⟨g, o + 3, none⟩ = some (.slice A4 N4 c4) ∧ w'.cell? ⟨g, o + 4, none⟩ = some (.bool x.dot)) (first | (with_reducible exact ⟨x0, x1, x2, x3, x4⟩) | (with_reducible exact ⟨y0, y1, y2, y3, y4⟩) | (with_reducible exact ⟨z0, z1, z2, z3, z4⟩) | (with_reducible exact ⟨keep5 z0 (by omega), keep5 z1 (by omega), keep5 z2 (by omega), keep5 z3 (by omega), keep5 z4 (by omega)⟩) | go_keep)
      (first
        | (go_at_call 29; refine (symbol_calls ⟨#[113, 117, 111, 116, 101]⟩ _).mono ?_; rintro e w15 ⟨rfl, hu15⟩; have hv15 := Upd.trans (a := w9) (by repeat (with_reducible first | exact Upd.refl (fun _ => False) _ | refine Upd.alloc ?_ _ | refine Upd.drew ?_)) hu15; have y0 := hv15.cell x0 (fun x => x); have y1 := hv15.cell x1 (fun x => x); have y2 := hv15.cell x2 (fun x => x); have y3 := hv15.cell x3 (fun x => x); have y4 := hv15.cell x4 (fun x => x); (first | ((with_reducible have hb15 := Upd.heap hu15 (k := w9.heap.size) (HE1.out) (fun x => x)); obtain ⟨⟨p0, p1, p2, p3, p4⟩, pf⟩ := blk5 hb15; have HB15 := Lib.hid hb15; have hl15 := (Array.getElem?_eq_some_iff.1 hb15).1; clear hb15) | skip); have HU15 := Lib.hid hv15; have hz15 := hv15.size; clear hu15 hv15)
        | (go_at_call 28; refine (list_calls _ _ _ _).mono ?_; rintro e w16 ⟨rfl, hu16⟩; have hv16 := Upd.trans (a := w15) (by repeat (with_reducible first | exact Upd.refl (fun _ => False) _ | refine Upd.alloc ?_ _ | refine Upd.drew ?_)) hu16; have z0 := hv16.cell y0 (fun x => x); have z1 := hv16.cell y1 (fun x => x); have z2 := hv16.cell y2 (fun x => x); have z3 := hv16.cell y3 (fun x => x); have z4 := hv16.cell y4 (fun x => x); (first | ((with_reducible have hb16 := Upd.heap hu16 (k := w9.heap.size) (halloc HB15.out _) (fun x => x)); obtain ⟨⟨p0, p1, p2, p3, p4⟩, pf⟩ := blk5 hb16; have HB16 := Lib.hid hb16; have hl16 := (Array.getElem?_eq_some_iff.1 hb16).1; clear hb16) | ((with_reducible have hb16 := Upd.heap hu16 (k := w15.heap.size) (alloc1 w15 (.cells #[.int .u8 0, .int .i64 0, .string ⟨#[]⟩, .slice none 0 0, .bool false] 58) (.cells #[.int .u8 2, .int .i64 0, .string ⟨#[113, 117, 111, 116, 101]⟩, .slice none 0 0, .bool false, .int .u8 x.k, .int .i64 x.n, .string x.t, .slice A4 N4 c4, .bool x.dot] 58)) (fun x => x)); obtain ⟨⟨p0, p1, p2, p3, p4⟩, pf⟩ := blk5 hb16; have HB16 := Lib.hid hb16; have hl16 := (Array.getElem?_eq_some_iff.1 hb16).1; clear hb16) | ((with_reducible have hb16 := Upd.heap hu16 (k := w15.heap.size + 1) (alloc2 w15 (.cells #[.int .u8 2, .int .i64 0, .string ⟨#[113, 117, 111, 116, 101]⟩, .slice none 0 0, .bool false, .int .u8 x.k, .int .i64 x.n, .string x.t, .slice A4 N4 c4, .bool x.dot] 58) (.cells #[.int .u8 0, .int .i64 0, .string ⟨#[]⟩, .slice none 0 0, .bool false] 58)) (fun x => x)); obtain ⟨⟨p0, p1, p2, p3, p4⟩, pf⟩ := blk5 hb16; have HB16 := Lib.hid hb16; have hl16 := (Array.getElem?_eq_some_iff.1 hb16).1; clear hb16) | skip); have HU16 := Lib.hid (HU15.out.trans hv16); (first | (with_reducible have HQ16 := Lib.hid (Upd.heap hu16 (k := w15.heap.size) (heap_alloc_new w15 (.cells #[.int .u8 2, .int .i64 0, .string ⟨#[113, 117, 111, 116, 101]⟩, .slice none 0 0, .bool false, .int .u8 x.k, .int .i64 x.n, .string x.t, .slice A4 N4 c4, .bool x.dot] 58)) (fun x => x))) | (with_reducible have HQ16 := Lib.hid (Upd.heap hu16 (k := w15.heap.size + 1) (alloc2 w15 (.cells #[.int .u8 0, .int .i64 0, .string ⟨#[]⟩, .slice none 0 0, .bool false] 58) (.cells #[.int .u8 2, .int .i64 0, .string ⟨#[113, 117, 111, 116, 101]⟩, .slice none 0 0, .bool false, .int .u8 x.k, .int .i64 x.n, .string x.t, .slice A4 N4 c4, .bool x.dot] 58)) (fun x => x))) | (with_reducible have HQ16 := Lib.hid (Upd.heap hu16 (k := w15.heap.size) (alloc1 w15 (.cells #[.int .u8 2, .int .i64 0, .string ⟨#[113, 117, 111, 116, 101]⟩, .slice none 0 0, .bool false, .int .u8 x.k, .int .i64 x.n, .string x.t, .slice A4 N4 c4, .bool x.dot] 58) (.cells #[.int .u8 0, .int .i64 0, .string ⟨#[]⟩, .slice none 0 0, .bool false] 58)) (fun x => x)))); have hz16 := hv16.size; clear hu16 hv16))
    all_goals go_wp2_with fail
    all_goals go_meet
    all_goals (first | (with_reducible exact ⟨_, _, rfl, heap_alloc_new w16 _, halloc HQ16.out _, Upd.alloc HU16.out _⟩) | exact ⟨_, _, rfl, fin5 HB16.out HQ16.out HU16.out (by omega) (by omega) _ _ _ _ _⟩)
  case rest =>
    obtain ⟨B, q, rfl, hB, hq, hn⟩ := hcut
    have hkx := HK.out.new hn
    have hsb := sees_block (c := 2) [⟨sym quoteT, .slice none 0 0, []⟩, ⟨x, .slice A4 N4 c4, []⟩] hq rfl (by simp) (fun e he => by
      simp only [List.mem_cons, List.not_mem_nil, or_false] at he
      rcases he with rfl | rfl
      · exact sees_nil _ _ _ _
      · exact hkx)
    have HSB := Lib.hid hsb
    obtain ⟨⟨b0, b1, b2, b3, b4⟩, bf⟩ := blk5 hB
    obtain ⟨es, hes, hsn, -, hks⟩ := (HO9.out.new hn).inv
    have hl0 : 0 < es.length := by have := congrArg List.length hes; simp at this; omega
    obtain ⟨g2, o2, cc2, hA2, -, -, t0, t1, t2, t3, t4⟩ := hsn.at 0 hl0
    simp only [Value.slice.injEq] at hA2
    obtain ⟨rfl, -, -⟩ := hA2
    have hx : es[0].d = lst [sym quoteT, x] false := by
      have := congrArg (fun l => l[0]?) hes
      simpa [List.getElem?_eq_getElem hl0] using this.symm
    have hk := hks es[0] (List.getElem_mem hl0)
    obtain ⟨esx, -, hsx, -⟩ := hk.inv
    obtain ⟨A10, c10, hkv⟩ := hsx.form
    rw [hx] at t0 t1 t2 t4 hk
    rw [hkv] at t3 hk
    generalize esx.length = N10 at *
    simp only [Nat.zero_mul, Nat.add_zero] at t0 t1 t2 t3 t4
    replace t0 : wc.cell? ⟨g2, o2, none⟩ = some (.int .u8 5) := t0
    replace t1 : wc.cell? ⟨g2, o2 + 1, none⟩ = some (.int .i64 0) := t1
    replace t2 : wc.cell? ⟨g2, o2 + 2, none⟩ = some (.string ⟨#[]⟩) := t2
    replace t4 : wc.cell? ⟨g2, o2 + 4, none⟩ = some (.bool false) := t4
    have HKD := Lib.hid (show Sees wc All (.slice A10 N10 c10) [sym quoteT, x] from hk)
    have HN := Lib.hid (HU9.out.trans hn)
    clear hkx hsb hB hq hn hes hsn hks hl0 hx hk hsx hkv bf
    go_wp2_with fail
    go_region_held3 (fun w' => w'.cell? ⟨g2, o2, none⟩ = some (.int .u8 5) ∧ w'.cell? ⟨g2, o2 + 1, none⟩ = some (.int .i64 0) ∧ w'.cell? ⟨g2, o2 + 2, none⟩ = some (.string ⟨#[]⟩) ∧ w'.cell? ⟨g2, o2 + 3, none⟩ = some (.slice A10 N10 c10) ∧ w'.cell? ⟨g2, o2 + 4, none⟩ = some (.bool false) ∧ w'.cell? ⟨B, 0, none⟩ = some (.int .u8 5) ∧ w'.cell? ⟨B, 1, none⟩ = some (.int .i64 0) ∧ w'.cell? ⟨B, 2, none⟩ = some (.string ⟨#[]⟩) ∧ w'.cell? ⟨B, 3, none⟩ = some (.slice (some ⟨q, 0, none⟩) 2 2) ∧ w'.cell? ⟨B, 4, none⟩ = some (.bool false)) (first | (with_reducible exact ⟨t0, t1, t2, t3, t4, b0, b1, b2, b3, b4⟩) | (with_reducible exact ⟨r0, r1, r2, r3, r4, s0, s1, s2, s3, s4⟩) | go_keep)
      (first
        | (go_at_call 24; refine (same_calls (lst [sym quoteT, x] false) (lst [sym quoteT, x] false) All (.slice A10 N10 c10) (.slice (some ⟨q, 0, none⟩) 2 2) _ (HKD.out.new (Upd.refl (fun _ => False) wc).drew) (HSB.out.new (Upd.refl (fun _ => False) wc).drew)).mono ?_; rintro e w18 ⟨rfl, hu18⟩; replace hu18 := Upd.trans ((Upd.refl (fun _ => False) wc).drew) hu18; have r0 := hu18.cell t0 (fun x => x); have r1 := hu18.cell t1 (fun x => x); have r2 := hu18.cell t2 (fun x => x); have r3 := hu18.cell t3 (fun x => x); have r4 := hu18.cell t4 (fun x => x); have s0 := hu18.cell b0 (fun x => x); have s1 := hu18.cell b1 (fun x => x); have s2 := hu18.cell b2 (fun x => x); have s3 := hu18.cell b3 (fun x => x); have s4 := hu18.cell b4 (fun x => x); have HU18 := Lib.hid (HN.out.trans hu18); clear hu18))
    rw [sameB_true rfl]
    go_wp2_with fail
    go_ret
    exact ⟨rfl, HU18.out⟩
set_option maxHeartbeats 8000000 in
set_option maxRecDepth 20000 in
theorem tails_62_no_ok (v v2 : Value) (x : Dat) (l m : List Dat) (w : World) (hv : SeesB w v (x :: l)) (hv2 : SeesB w v2 m) (h : ¬ leftL (x :: l) 200000 0 < 0) (hh2 : ¬ leftL m 200000 0 < 0) (he : writeE (x :: l) = 0) (hf : writeE m = 0) (hlong : (textW (x :: l)).size + (textW m).size ≤ 60000) (pl1 : Int) (h1 : RdNo (s1T (textW (x :: l)) (textW m)) 62 pl1) (er2 pl2 : Int) (hr2 : (er2 == 0) = false) (h2 : RdNo (s2T (textW (x :: l)) (textW m)) er2 pl2) (h3 : RdOk (s3T (textW (x :: l))) (lst [sym quoteT, x] false :: l)) : Calls Try.prog 8 #[v, v2] w fun e w' => e = .returned (.bool true) ∧ New w w' := by
  obtain ⟨m1, m2, m3, m4⟩ := much_not h
  obtain ⟨n1, n2, n3, n4⟩ := much_not hh2
  obtain ⟨es, hes, hsn, -⟩ := hv.inv
  obtain ⟨A, c, hvv⟩ := hsn.form
  have hll : es.length = l.length + 1 := by have := congrArg List.length hes; simp at this; omega
  rw [hll] at hvv
  subst hvv
  clear hes hsn hll
  have HMU := Lib.hid (fun w' (hn : New w w') => much_calls (x :: l) _ w' (hv.new hn))
  have HMU2 := Lib.hid (fun w' (hn : New w w') => much_calls m v2 w' (hv2.new hn))
  have hd : decide (leftL (x :: l) 200000 0 < 0) = false := decide_eq_false h
  have hd2 : decide (leftL m 200000 0 < 0) = false := decide_eq_false hh2
  rw [hd] at HMU
  rw [hd2] at HMU2
  have hle : (((l.length + 1 : Nat) : Int) == 0) = false := by simp; omega
  have hlp : (0 : Int) < ((l.length + 1 : Nat) : Int) := by omega
  have HV := Lib.hid (fun w' (hn : New w w') => (hv.sees (by omega)).new hn)
  have HV2 := Lib.hid (fun w' (hn : New w w') => (hv2.sees (by omega)).new hn)
  have HW1 := Lib.hid (fun w' (hn : New w w') => write_all (HV.out w' hn) m2 (by omega) (by omega))
  have HW2 := Lib.hid (fun w' (hn : New w w') => write_all (HV2.out w' hn) n2 (by omega) (by omega))
  rw [writeT, if_pos he, he] at HW1
  rw [writeT, if_pos hf, hf] at HW2
  have hml := (may_of he).2
  have hmm := (may_of hf).2
  have HMA := Lib.hid (show manyL [lst (x :: l ++ m) false] ≤ 2000000 by rw [manyL, manyL, lst, Dat.many, manyL_append]; omega)
  have HMB := Lib.hid (show manyL (lst [sym quoteT, x] false :: l) ≤ 2000000 by rw [manyL] at hml ⊢; rw [lst, Dat.many, manyL, manyL, manyL, sym, Dat.many, manyL]; omega)
  generalize textW (x :: l) = T1 at *
  generalize textW m = T2 at *
  have hq1 : ((T1.size : Int) + T2.size) ≤ 60000 := by omega
  have hq2 : decide (60000 < T1.size + T2.size) = false := decide_eq_false (by omega)
  have hq3 : ¬ (60000 : Int) < (T1.size : Int) + T2.size := by omega
  have H1 := Lib.hid h1
  have H2 := Lib.hid h2
  have H3 := Lib.hid h3
  unfold RdNo s1T at H1
  unfold RdNo s2T at H2
  unfold RdOk s3T at H3
  clear h hh2 h1 h2 h3 hd hd2 hv hv2 m1 m2 m3 m4 n1 n2 n3 n4 he hf hlong hml hmm
  go_enter Try.func8, Try.ntmps8
  go_wp2_with fail
  refine (works_calls _).mono ?_
  rintro e w1 ⟨rfl, hu1⟩
  have HU1 := Lib.hid hu1
  clear hu1
  go_wp2_with fail
  refine (HMU.out _ HU1.out).mono ?_
  rintro e w2 ⟨rfl, hu2⟩
  have HU2 := Lib.hid (HU1.out.trans hu2)
  clear hu2
  go_wp2_with fail
  refine (HMU2.out _ HU2.out).mono ?_
  rintro e w3 ⟨rfl, hu3⟩
  have HU3 := Lib.hid (HU2.out.trans hu3)
  clear hu3
  go_wp2_with fail
  refine (HW1.out _ HU3.out).mono ?_
  rintro e w4 ⟨rfl, hu4⟩
  have HU4 := Lib.hid (HU3.out.trans hu4)
  clear hu4
  go_wp2_with fail
  refine (HW2.out _ HU4.out).mono ?_
  rintro e w5 ⟨rfl, hu5⟩
  have HU5 := Lib.hid (HU4.out.trans hu5)
  clear hu5
  go_wp2_with fail
  refine (H1.out _).mono ?_
  rintro e w6 ⟨rfl, hu6⟩
  have HU6 := Lib.hid (HU5.out.trans hu6)
  clear hu6
  go_wp2_with fail
  refine (H2.out _).mono ?_
  rintro e w7 ⟨rfl, hu7⟩
  have HU7 := Lib.hid (HU6.out.trans hu7)
  have HU8 := HU7
  clear hu7
  go_wp2_with fail
  refine (H3.out _).mono ?_
  rintro e w9 ⟨A9, c9, bs9, rfl, hu9, ho9, -⟩
  have HU9 := Lib.hid (HU8.out.trans hu9)
  have HO9 := Lib.hid (own_sees ho9 HMB.out)
  clear hu9 ho9
  have hlw := HV.out _ HU9.out
  obtain ⟨es, hes, hsn, -, hks⟩ := hlw.inv
  have hl0 : 0 < es.length := by have := congrArg List.length hes; simp at this; omega
  obtain ⟨g, o, cc, hA, -, hltg, x0, x1, x2, x3, x4⟩ := hsn.at 0 hl0
  simp only [Value.slice.injEq] at hA
  obtain ⟨rfl, -, -⟩ := hA
  have hx : es[0].d = x := by
    have := congrArg (fun l => l[0]?) hes
    simpa [List.getElem?_eq_getElem hl0] using this.symm
  have hk := hks es[0] (List.getElem_mem hl0)
  obtain ⟨esx, -, hsx, -⟩ := hk.inv
  obtain ⟨A4, c4, hkv⟩ := hsx.form
  rw [hx] at x0 x1 x2 x4 hk
  rw [hkv] at x3 hk
  generalize esx.length = N4 at *
  simp only [Nat.zero_mul, Nat.add_zero] at x0 x1 x2 x3 x4
  have HK := Lib.hid hk
  clear hlw hes hsn hks hl0 hx hk hsx hkv
  go_wp2_with fail
  have HE1 : Hid ((w9.alloc (.cells #[.int .u8 0, .int .i64 0, .string ⟨#[]⟩, .slice none 0 0, .bool false] 58)).drew.heap[w9.heap.size]? = some (.cells #[.int .u8 0, .int .i64 0, .string ⟨#[]⟩, .slice none 0 0, .bool false] 58 (0, 0))) := Lib.hid (heap_alloc_new w9 (.cells #[.int .u8 0, .int .i64 0, .string ⟨#[]⟩, .slice none 0 0, .bool false] 58))
  go_cut [21] (fun s21 wx => ∃ B q : Nat, s21 = .pointer (some ⟨B, 0, none⟩) ∧ wx.heap[B]? = some (.cells #[.int .u8 5, .int .i64 0, .string ⟨#[]⟩, .slice (some ⟨q, 0, none⟩) 2 2, .bool false] 58 (0, 0)) ∧ wx.heap[q]? = some (.cells #[.int .u8 2, .int .i64 0, .string ⟨#[113, 117, 111, 116, 101]⟩, .slice none 0 0, .bool false, .int .u8 x.k, .int .i64 x.n, .string x.t, .slice A4 N4 c4, .bool x.dot] 58 (0, 0)) ∧ New w9 wx)
  case first =>
    go_region_held3 (fun w' => w'.cell? ⟨g, o, none⟩ = some (.int .u8 x.k) ∧ w'.cell? ⟨g, o + 1, none⟩ = some (.int .i64 x.n) ∧ w'.cell? ⟨g, o + 2, none⟩ = some (.string x.t) ∧ w'.cell? ⟨g, o + 3, none⟩ = some (.slice A4 N4 c4) ∧ w'.cell? ⟨g, o + 4, none⟩ = some (.bool x.dot)) (first | (with_reducible exact ⟨x0, x1, x2, x3, x4⟩) | (with_reducible exact ⟨y0, y1, y2, y3, y4⟩) | (with_reducible exact ⟨z0, z1, z2, z3, z4⟩) | (with_reducible exact ⟨keep5 z0 (by omega), keep5 z1 (by omega), keep5 z2 (by omega), keep5 z3 (by omega), keep5 z4 (by omega)⟩) | go_keep)
      (first
        | (go_at_call 29; refine (symbol_calls ⟨#[113, 117, 111, 116, 101]⟩ _).mono ?_; rintro e w15 ⟨rfl, hu15⟩; have hv15 := Upd.trans (a := w9) (by repeat (with_reducible first | exact Upd.refl (fun _ => False) _ | refine Upd.alloc ?_ _ | refine Upd.drew ?_)) hu15; have y0 := hv15.cell x0 (fun x => x); have y1 := hv15.cell x1 (fun x => x); have y2 := hv15.cell x2 (fun x => x); have y3 := hv15.cell x3 (fun x => x); have y4 := hv15.cell x4 (fun x => x); (first | ((with_reducible have hb15 := Upd.heap hu15 (k := w9.heap.size) (HE1.out) (fun x => x)); obtain ⟨⟨p0, p1, p2, p3, p4⟩, pf⟩ := blk5 hb15; have HB15 := Lib.hid hb15; have hl15 := (Array.getElem?_eq_some_iff.1 hb15).1; clear hb15) | skip); have HU15 := Lib.hid hv15; have hz15 := hv15.size; clear hu15 hv15)
        | (go_at_call 28; refine (list_calls _ _ _ _).mono ?_; rintro e w16 ⟨rfl, hu16⟩; have hv16 := Upd.trans (a := w15) (by repeat (with_reducible first | exact Upd.refl (fun _ => False) _ | refine Upd.alloc ?_ _ | refine Upd.drew ?_)) hu16; have z0 := hv16.cell y0 (fun x => x); have z1 := hv16.cell y1 (fun x => x); have z2 := hv16.cell y2 (fun x => x); have z3 := hv16.cell y3 (fun x => x); have z4 := hv16.cell y4 (fun x => x); (first | ((with_reducible have hb16 := Upd.heap hu16 (k := w9.heap.size) (halloc HB15.out _) (fun x => x)); obtain ⟨⟨p0, p1, p2, p3, p4⟩, pf⟩ := blk5 hb16; have HB16 := Lib.hid hb16; have hl16 := (Array.getElem?_eq_some_iff.1 hb16).1; clear hb16) | ((with_reducible have hb16 := Upd.heap hu16 (k := w15.heap.size) (alloc1 w15 (.cells #[.int .u8 0, .int .i64 0, .string ⟨#[]⟩, .slice none 0 0, .bool false] 58) (.cells #[.int .u8 2, .int .i64 0, .string ⟨#[113, 117, 111, 116, 101]⟩, .slice none 0 0, .bool false, .int .u8 x.k, .int .i64 x.n, .string x.t, .slice A4 N4 c4, .bool x.dot] 58)) (fun x => x)); obtain ⟨⟨p0, p1, p2, p3, p4⟩, pf⟩ := blk5 hb16; have HB16 := Lib.hid hb16; have hl16 := (Array.getElem?_eq_some_iff.1 hb16).1; clear hb16) | ((with_reducible have hb16 := Upd.heap hu16 (k := w15.heap.size + 1) (alloc2 w15 (.cells #[.int .u8 2, .int .i64 0, .string ⟨#[113, 117, 111, 116, 101]⟩, .slice none 0 0, .bool false, .int .u8 x.k, .int .i64 x.n, .string x.t, .slice A4 N4 c4, .bool x.dot] 58) (.cells #[.int .u8 0, .int .i64 0, .string ⟨#[]⟩, .slice none 0 0, .bool false] 58)) (fun x => x)); obtain ⟨⟨p0, p1, p2, p3, p4⟩, pf⟩ := blk5 hb16; have HB16 := Lib.hid hb16; have hl16 := (Array.getElem?_eq_some_iff.1 hb16).1; clear hb16) | skip); have HU16 := Lib.hid (HU15.out.trans hv16); (first | (with_reducible have HQ16 := Lib.hid (Upd.heap hu16 (k := w15.heap.size) (heap_alloc_new w15 (.cells #[.int .u8 2, .int .i64 0, .string ⟨#[113, 117, 111, 116, 101]⟩, .slice none 0 0, .bool false, .int .u8 x.k, .int .i64 x.n, .string x.t, .slice A4 N4 c4, .bool x.dot] 58)) (fun x => x))) | (with_reducible have HQ16 := Lib.hid (Upd.heap hu16 (k := w15.heap.size + 1) (alloc2 w15 (.cells #[.int .u8 0, .int .i64 0, .string ⟨#[]⟩, .slice none 0 0, .bool false] 58) (.cells #[.int .u8 2, .int .i64 0, .string ⟨#[113, 117, 111, 116, 101]⟩, .slice none 0 0, .bool false, .int .u8 x.k, .int .i64 x.n, .string x.t, .slice A4 N4 c4, .bool x.dot] 58)) (fun x => x))) | (with_reducible have HQ16 := Lib.hid (Upd.heap hu16 (k := w15.heap.size) (alloc1 w15 (.cells #[.int .u8 2, .int .i64 0, .string ⟨#[113, 117, 111, 116, 101]⟩, .slice none 0 0, .bool false, .int .u8 x.k, .int .i64 x.n, .string x.t, .slice A4 N4 c4, .bool x.dot] 58) (.cells #[.int .u8 0, .int .i64 0, .string ⟨#[]⟩, .slice none 0 0, .bool false] 58)) (fun x => x)))); have hz16 := hv16.size; clear hu16 hv16))
    all_goals go_wp2_with fail
    all_goals go_meet
    all_goals (first | (with_reducible exact ⟨_, _, rfl, heap_alloc_new w16 _, halloc HQ16.out _, Upd.alloc HU16.out _⟩) | exact ⟨_, _, rfl, fin5 HB16.out HQ16.out HU16.out (by omega) (by omega) _ _ _ _ _⟩)
  case rest =>
    obtain ⟨B, q, rfl, hB, hq, hn⟩ := hcut
    have hkx := HK.out.new hn
    have hsb := sees_block (c := 2) [⟨sym quoteT, .slice none 0 0, []⟩, ⟨x, .slice A4 N4 c4, []⟩] hq rfl (by simp) (fun e he => by
      simp only [List.mem_cons, List.not_mem_nil, or_false] at he
      rcases he with rfl | rfl
      · exact sees_nil _ _ _ _
      · exact hkx)
    have HSB := Lib.hid hsb
    obtain ⟨⟨b0, b1, b2, b3, b4⟩, bf⟩ := blk5 hB
    obtain ⟨es, hes, hsn, -, hks⟩ := (HO9.out.new hn).inv
    have hl0 : 0 < es.length := by have := congrArg List.length hes; simp at this; omega
    obtain ⟨g2, o2, cc2, hA2, -, -, t0, t1, t2, t3, t4⟩ := hsn.at 0 hl0
    simp only [Value.slice.injEq] at hA2
    obtain ⟨rfl, -, -⟩ := hA2
    have hx : es[0].d = lst [sym quoteT, x] false := by
      have := congrArg (fun l => l[0]?) hes
      simpa [List.getElem?_eq_getElem hl0] using this.symm
    have hk := hks es[0] (List.getElem_mem hl0)
    obtain ⟨esx, -, hsx, -⟩ := hk.inv
    obtain ⟨A10, c10, hkv⟩ := hsx.form
    rw [hx] at t0 t1 t2 t4 hk
    rw [hkv] at t3 hk
    generalize esx.length = N10 at *
    simp only [Nat.zero_mul, Nat.add_zero] at t0 t1 t2 t3 t4
    replace t0 : wc.cell? ⟨g2, o2, none⟩ = some (.int .u8 5) := t0
    replace t1 : wc.cell? ⟨g2, o2 + 1, none⟩ = some (.int .i64 0) := t1
    replace t2 : wc.cell? ⟨g2, o2 + 2, none⟩ = some (.string ⟨#[]⟩) := t2
    replace t4 : wc.cell? ⟨g2, o2 + 4, none⟩ = some (.bool false) := t4
    have HKD := Lib.hid (show Sees wc All (.slice A10 N10 c10) [sym quoteT, x] from hk)
    have HN := Lib.hid (HU9.out.trans hn)
    clear hkx hsb hB hq hn hes hsn hks hl0 hx hk hsx hkv bf
    go_wp2_with fail
    go_region_held3 (fun w' => w'.cell? ⟨g2, o2, none⟩ = some (.int .u8 5) ∧ w'.cell? ⟨g2, o2 + 1, none⟩ = some (.int .i64 0) ∧ w'.cell? ⟨g2, o2 + 2, none⟩ = some (.string ⟨#[]⟩) ∧ w'.cell? ⟨g2, o2 + 3, none⟩ = some (.slice A10 N10 c10) ∧ w'.cell? ⟨g2, o2 + 4, none⟩ = some (.bool false) ∧ w'.cell? ⟨B, 0, none⟩ = some (.int .u8 5) ∧ w'.cell? ⟨B, 1, none⟩ = some (.int .i64 0) ∧ w'.cell? ⟨B, 2, none⟩ = some (.string ⟨#[]⟩) ∧ w'.cell? ⟨B, 3, none⟩ = some (.slice (some ⟨q, 0, none⟩) 2 2) ∧ w'.cell? ⟨B, 4, none⟩ = some (.bool false)) (first | (with_reducible exact ⟨t0, t1, t2, t3, t4, b0, b1, b2, b3, b4⟩) | (with_reducible exact ⟨r0, r1, r2, r3, r4, s0, s1, s2, s3, s4⟩) | go_keep)
      (first
        | (go_at_call 24; refine (same_calls (lst [sym quoteT, x] false) (lst [sym quoteT, x] false) All (.slice A10 N10 c10) (.slice (some ⟨q, 0, none⟩) 2 2) _ (HKD.out.new (Upd.refl (fun _ => False) wc).drew) (HSB.out.new (Upd.refl (fun _ => False) wc).drew)).mono ?_; rintro e w18 ⟨rfl, hu18⟩; replace hu18 := Upd.trans ((Upd.refl (fun _ => False) wc).drew) hu18; have r0 := hu18.cell t0 (fun x => x); have r1 := hu18.cell t1 (fun x => x); have r2 := hu18.cell t2 (fun x => x); have r3 := hu18.cell t3 (fun x => x); have r4 := hu18.cell t4 (fun x => x); have s0 := hu18.cell b0 (fun x => x); have s1 := hu18.cell b1 (fun x => x); have s2 := hu18.cell b2 (fun x => x); have s3 := hu18.cell b3 (fun x => x); have s4 := hu18.cell b4 (fun x => x); have HU18 := Lib.hid (HN.out.trans hu18); clear hu18))
    rw [sameB_true rfl]
    go_wp2_with fail
    go_ret
    exact ⟨rfl, HU18.out⟩
set_option maxHeartbeats 8000000 in
set_option maxRecDepth 20000 in
theorem readtails_all (v v2 : Value) (l m : List Dat) (w : World) (hv : SeesB w v l) (hv2 : SeesB w v2 m) : Calls Try.prog 8 #[v, v2] w fun e w' => e = .returned (.bool true) ∧ New w w' := by
  by_cases h : leftL l 200000 0 < 0
  · exact tails_much v v2 l m w hv hv2 h
  · by_cases h2 : leftL m 200000 0 < 0
    · exact tails_much2 v v2 l m w hv hv2 h h2
    · cases l with
      | nil => exact tails_nil v v2 [] m w hv hv2 h h2 rfl
      | cons x l =>
        have hl : ¬ (x :: l).length = 0 := by simp
        by_cases he : writeE (x :: l) = 0
        · by_cases hf : writeE m = 0
          · by_cases hz : 60000 < (textW (x :: l)).size + (textW m).size
            · exact tails_long v v2 (x :: l) m w hv hv2 h h2 hl he hf hz
            · have hz' : (textW (x :: l)).size + (textW m).size ≤ 60000 := by omega
              have hml := (may_of he).1
              have hmm := (may_of hf).1
              rcases rd1 he hf hml hmm (by simp) hz' with a1 | ⟨e1, p1, d1, a1⟩ <;> rcases rd2 he hf hml hmm hz' with a2 | ⟨e2, p2, d2, a2⟩ <;> rcases rd3 he hml (by omega) with a3 | ⟨e3, p3, d3, a3⟩
              · exact tails_ok_ok_ok v v2 x l m w hv hv2 h h2 he hf hz' a1 a2 a3
              · rcases d3 with rfl | rfl
                · exact tails_ok_ok_61 v v2 x l m w hv hv2 h h2 he hf hz' a1 a2 p3 a3
                · exact tails_ok_ok_62 v v2 x l m w hv hv2 h h2 he hf hz' a1 a2 p3 a3
              · exact tails_ok_no_ok v v2 x l m w hv hv2 h h2 he hf hz' a1 e2 p2 (by simp; omega) a2 a3
              · rcases d3 with rfl | rfl
                · exact tails_ok_no_61 v v2 x l m w hv hv2 h h2 he hf hz' a1 e2 p2 (by simp; omega) a2 p3 a3
                · exact tails_ok_no_62 v v2 x l m w hv hv2 h h2 he hf hz' a1 e2 p2 (by simp; omega) a2 p3 a3
              · rcases d1 with rfl | rfl
                · exact tails_61_ok_ok v v2 x l m w hv hv2 h h2 he hf hz' p1 a1 a2 a3
                · exact tails_62_ok_ok v v2 x l m w hv hv2 h h2 he hf hz' p1 a1 a2 a3
              · rcases d1 with rfl | rfl <;> rcases d3 with rfl | rfl
                · exact tails_61_ok_61 v v2 x l m w hv hv2 h h2 he hf hz' p1 a1 a2 p3 a3
                · exact tails_61_ok_62 v v2 x l m w hv hv2 h h2 he hf hz' p1 a1 a2 p3 a3
                · exact tails_62_ok_61 v v2 x l m w hv hv2 h h2 he hf hz' p1 a1 a2 p3 a3
                · exact tails_62_ok_62 v v2 x l m w hv hv2 h h2 he hf hz' p1 a1 a2 p3 a3
              · rcases d1 with rfl | rfl
                · exact tails_61_no_ok v v2 x l m w hv hv2 h h2 he hf hz' p1 a1 e2 p2 (by simp; omega) a2 a3
                · exact tails_62_no_ok v v2 x l m w hv hv2 h h2 he hf hz' p1 a1 e2 p2 (by simp; omega) a2 a3
              · rcases d1 with rfl | rfl <;> rcases d3 with rfl | rfl
                · exact tails_61_no_61 v v2 x l m w hv hv2 h h2 he hf hz' p1 a1 e2 p2 (by simp; omega) a2 p3 a3
                · exact tails_61_no_62 v v2 x l m w hv hv2 h h2 he hf hz' p1 a1 e2 p2 (by simp; omega) a2 p3 a3
                · exact tails_62_no_61 v v2 x l m w hv hv2 h h2 he hf hz' p1 a1 e2 p2 (by simp; omega) a2 p3 a3
                · exact tails_62_no_62 v v2 x l m w hv hv2 h h2 he hf hz' p1 a1 e2 p2 (by simp; omega) a2 p3 a3
          · exact tails_f v v2 (x :: l) m w hv hv2 h h2 hl he hf
        · exact tails_e v v2 (x :: l) m w hv hv2 h h2 hl he
end Go.Proofs.Ytnnjhafjcdjobaa
