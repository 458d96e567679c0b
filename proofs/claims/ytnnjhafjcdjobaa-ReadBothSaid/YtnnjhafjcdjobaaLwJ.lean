/- Read: the law ReadBoth, walked: where the first text is read. -/
import Derived.Test.YtnnjhafjcdjobaaLwI
namespace Go.Proofs.Ytnnjhafjcdjobaa
open Go.RowKit
set_option linter.unusedVariables false
set_option linter.unusedSimpArgs false

set_option maxHeartbeats 8000000 in
set_option maxRecDepth 20000 in
theorem both_x2_g1 (s t g : ByteArray) (w : World) (hst : (s.size : Int) + t.size ≤ 65535) (hg : (g.size : Int) ≤ 100) (a : List Dat) (e2 p2 e3 p3 : Int) (h1 : RdOk s a) (h2 : RdAny t e2 p2) (h3 : RdAny (s ++ ⟨#[10]⟩ ++ t) e3 p3) (x1 : (e2 == 0) = false) (eg pg : Int) (h4 : TkAny g eg pg) (x4 : (eg == 0) = false) (x5 : (eg != 0) = true) : Calls Try.prog 7 #[.string s, .string t, .string g] w fun e w' => e = .returned (.bool true) ∧ New w w' := by
  have H1 := Lib.hid h1
  have H2 := Lib.hid h2
  have H3 := Lib.hid h3
  have H4 := Lib.hid h4
  unfold RdOk at H1
  unfold RdAny at H2
  unfold RdAny at H3
  unfold TkAny at H4
  clear h4
  clear h1 h2 h3
  have q1 : ¬ (65535 : Int) < (s.size : Int) + t.size := by omega
  have q2 : decide ((65535 : Int) < (s.size : Int) + t.size) = false := decide_eq_false q1
  have q3 : ¬ (100 : Int) < g.size := by omega
  have q4 : decide ((100 : Int) < (g.size : Int)) = false := decide_eq_false q3
  go_enter Try.func7, Try.ntmps7
  go_wp2_with fail
  refine (works_calls _).mono ?_
  rintro e w1 ⟨rfl, hu1⟩
  have HU1 := Lib.hid hu1
  clear hu1
  go_wp2_with fail
  refine (H1.out _).mono ?_
  rintro e w2 ⟨A2, c2, bs2, rfl, hu2, ho2, -⟩
  have HU2 := Lib.hid (HU1.out.trans hu2)
  have HO2 := Lib.hid ho2
  clear ho2 hu2
  go_wp2_with fail
  refine (H2.out _).mono ?_
  rintro e w3 ⟨A3, n3, c3, rfl, hu3⟩
  have HU3 := Lib.hid (HU2.out.trans hu3)
  have HN3 := Lib.hid hu3
  clear hu3
  go_wp2_with fail
  refine (H3.out _).mono ?_
  rintro e w4 ⟨A4, n4, c4, rfl, hu4⟩
  have HU4 := Lib.hid (HU3.out.trans hu4)
  have HN4 := Lib.hid hu4
  clear hu4
  have HU7 := HU4
  have HU47 : Hid (New w4 w4) := Lib.hid (Upd.refl _ _)
  go_wp2_with fail
  refine (H1.out _).mono ?_
  rintro e w8 ⟨A8, c8, bs8, rfl, hu8, -⟩
  have HU8 := Lib.hid (HU7.out.trans hu8)
  have HN8 := Lib.hid hu8
  clear hu8
  go_wp2_with fail
  refine (H4.out _).mono ?_
  rintro e w9 ⟨A9, n9, c9, rfl, hu9⟩
  have HU9 := Lib.hid (HU8.out.trans hu9)
  clear hu9
  go_wp2_with fail
  go_ret
  exact ⟨rfl, HU9.out⟩
set_option maxHeartbeats 8000000 in
set_option maxRecDepth 20000 in
theorem both_x2_g2 (s t g : ByteArray) (w : World) (hst : (s.size : Int) + t.size ≤ 65535) (hg : (g.size : Int) ≤ 100) (a : List Dat) (e2 p2 e3 p3 : Int) (h1 : RdOk s a) (h2 : RdAny t e2 p2) (h3 : RdAny (s ++ ⟨#[10]⟩ ++ t) e3 p3) (x1 : (e2 == 0) = false) (h4 : TkOk g) (x4 : (((toks g 0).1.length : Int) != 1) = true) : Calls Try.prog 7 #[.string s, .string t, .string g] w fun e w' => e = .returned (.bool true) ∧ New w w' := by
  have H1 := Lib.hid h1
  have H2 := Lib.hid h2
  have H3 := Lib.hid h3
  have H4 := Lib.hid h4
  unfold RdOk at H1
  unfold RdAny at H2
  unfold RdAny at H3
  unfold TkOk at H4
  generalize (toks g 0).1.length = NG at *
  clear h1 h2 h3 h4
  have q1 : ¬ (65535 : Int) < (s.size : Int) + t.size := by omega
  have q2 : decide ((65535 : Int) < (s.size : Int) + t.size) = false := decide_eq_false q1
  have q3 : ¬ (100 : Int) < g.size := by omega
  have q4 : decide ((100 : Int) < (g.size : Int)) = false := decide_eq_false q3
  go_enter Try.func7, Try.ntmps7
  go_wp2_with fail
  refine (works_calls _).mono ?_
  rintro e w1 ⟨rfl, hu1⟩
  have HU1 := Lib.hid hu1
  clear hu1
  go_wp2_with fail
  refine (H1.out _).mono ?_
  rintro e w2 ⟨A2, c2, bs2, rfl, hu2, ho2, -⟩
  have HU2 := Lib.hid (HU1.out.trans hu2)
  have HO2 := Lib.hid ho2
  clear ho2 hu2
  go_wp2_with fail
  refine (H2.out _).mono ?_
  rintro e w3 ⟨A3, n3, c3, rfl, hu3⟩
  have HU3 := Lib.hid (HU2.out.trans hu3)
  have HN3 := Lib.hid hu3
  clear hu3
  go_wp2_with fail
  refine (H3.out _).mono ?_
  rintro e w4 ⟨A4, n4, c4, rfl, hu4⟩
  have HU4 := Lib.hid (HU3.out.trans hu4)
  have HN4 := Lib.hid hu4
  clear hu4
  have HU7 := HU4
  have HU47 : Hid (New w4 w4) := Lib.hid (Upd.refl _ _)
  go_wp2_with fail
  refine (H1.out _).mono ?_
  rintro e w8 ⟨A8, c8, bs8, rfl, hu8, -⟩
  have HU8 := Lib.hid (HU7.out.trans hu8)
  have HN8 := Lib.hid hu8
  clear hu8
  go_wp2_with fail
  refine (H4.out _).mono ?_
  rintro e w9 ⟨g9, c9, rfl, hu9, -⟩
  have HU9 := Lib.hid (HU8.out.trans hu9)
  have HN9 := Lib.hid hu9
  clear hu9
  go_wp2_with fail
  go_ret
  exact ⟨rfl, HU9.out⟩
set_option maxHeartbeats 8000000 in
set_option maxRecDepth 20000 in
theorem both_x2_g3 (s t g : ByteArray) (w : World) (hst : (s.size : Int) + t.size ≤ 65535) (hg : (g.size : Int) ≤ 100) (a : List Dat) (e2 p2 e3 p3 : Int) (h1 : RdOk s a) (h2 : RdAny t e2 p2) (h3 : RdAny (s ++ ⟨#[10]⟩ ++ t) e3 p3) (x1 : (e2 == 0) = false) (n : Nat) (h4 : TkOk g) (x4 : (toks g 0).1.length = 1) (h5 : TkOk s) (hn : n + 1 = (toks s 0).1.length) (hord : ∀ k, k + 1 < (toks s 0).1.length → tokA (toks s 0).1 k ≤ tokA (toks s 0).1 (k + 1) ∧ tokA (toks s 0).1 (k + 1) ≤ s.size) (hlen : (toks s 0).1.length ≤ 1048577) (h6 : (sprB s g (toks s 0).1 n).size ≤ 65536 → RdOk (sprB s g (toks s 0).1 n) a) (hma : manyL a ≤ 10000) : Calls Try.prog 7 #[.string s, .string t, .string g] w fun e w' => e = .returned (.bool true) ∧ New w w' := by
  have H1 := Lib.hid h1
  have H2 := Lib.hid h2
  have H3 := Lib.hid h3
  have H4 := Lib.hid h4
  unfold RdOk at H1
  unfold RdAny at H2
  unfold RdAny at H3
  have H5 := Lib.hid h5
  have H6 := Lib.hid h6
  have HORD := Lib.hid hord
  have HMA := Lib.hid hma
  unfold TkOk at H4
  rw [x4] at H4
  unfold TkOk at H5
  have hlI : ((toks s 0).1.length : Int) ≤ 1048577 := by omega
  generalize (toks s 0).1 = L at *
  clear h1 h2 h3 h4 h5 h6 hord x4 hlen hma
  have q1 : ¬ (65535 : Int) < (s.size : Int) + t.size := by omega
  have q2 : decide ((65535 : Int) < (s.size : Int) + t.size) = false := decide_eq_false q1
  have q3 : ¬ (100 : Int) < g.size := by omega
  have q4 : decide ((100 : Int) < (g.size : Int)) = false := decide_eq_false q3
  go_enter Try.func7, Try.ntmps7
  go_wp2_with fail
  refine (works_calls _).mono ?_
  rintro e w1 ⟨rfl, hu1⟩
  have HU1 := Lib.hid hu1
  clear hu1
  go_wp2_with fail
  refine (H1.out _).mono ?_
  rintro e w2 ⟨A2, c2, bs2, rfl, hu2, ho2, -⟩
  have HU2 := Lib.hid (HU1.out.trans hu2)
  have HO2 := Lib.hid ho2
  clear ho2 hu2
  go_wp2_with fail
  refine (H2.out _).mono ?_
  rintro e w3 ⟨A3, n3, c3, rfl, hu3⟩
  have HU3 := Lib.hid (HU2.out.trans hu3)
  have HN3 := Lib.hid hu3
  clear hu3
  go_wp2_with fail
  refine (H3.out _).mono ?_
  rintro e w4 ⟨A4, n4, c4, rfl, hu4⟩
  have HU4 := Lib.hid (HU3.out.trans hu4)
  have HN4 := Lib.hid hu4
  clear hu4
  have HU7 := HU4
  have HU47 : Hid (New w4 w4) := Lib.hid (Upd.refl _ _)
  go_wp2_with fail
  refine (H1.out _).mono ?_
  rintro e w8 ⟨A8, c8, bs8, rfl, hu8, -⟩
  have HU8 := Lib.hid (HU7.out.trans hu8)
  have HN8 := Lib.hid hu8
  clear hu8
  go_wp2_with fail
  refine (H4.out _).mono ?_
  rintro e w9 ⟨g9, c9, rfl, hu9, -⟩
  have HU9 := Lib.hid (HU8.out.trans hu9)
  have HN9 := Lib.hid hu9
  clear hu9
  go_wp2_with fail
  refine (H5.out _).mono ?_
  rintro e w10 ⟨tg, tc, rfl, hu10, ht10⟩
  have HU10 := Lib.hid (HU9.out.trans hu10)
  have HT10 := Lib.hid ht10
  have HOA := Lib.hid ((own_sees HO2.out (by have := HMA.out; omega)).new (HN3.out.trans (HN4.out.trans (HU47.out.trans (HN8.out.trans (HN9.out.trans hu10))))))
  clear hu10 ht10
  go_wp2_with fail
  go_loopw [31, 32] (fun sv i wr => New w10 wr ∧ ∃ k : Nat, k + 1 ≤ L.length ∧ i = .int .i64 k ∧ sv = .string (sprB s g L k) ∧ (sprB s g L k).size ≤ 65536) (fun _ i _ => L.length - (intOf i).toNat)
  case atStart => exact ⟨Upd.refl _ _, 0, by omega, rfl, rfl, Nat.zero_le _⟩
  case round =>
    obtain ⟨hnw, k, hk, rfl, rfl, hsz⟩ := hrel
    have HNW := Lib.hid hnw
    have HTR := Lib.hid (HT10.out.new hnw)
    clear hnw
    have k0 : (0 : Int) ≤ k := by omega
    have k1 : IntKind.i64.wrap ((k : Int) + 1) = (k : Int) + 1 := IntWalk.i64_in _ (by omega)
    by_cases hkl : k + 1 < L.length
    · have k2 : (k : Int) + 1 < L.length := by omega
      have k3 : (k : Int) < L.length := by omega
      have k4 : (0 : Int) ≤ (k : Int) + 1 := by omega
      have k5 : ((k : Int) + 1).toNat = k + 1 := by omega
      obtain ⟨o1, o2⟩ := HORD.out k hkl
      obtain ⟨-, -, -, ce1⟩ := tok_kind HTR.out (show k < L.length by omega)
      obtain ⟨-, -, -, ce2⟩ := tok_kind HTR.out hkl
      have o3 : ((tokA L k : Nat) : Int) ≤ tokA L (k + 1) := by omega
      have o4 : ((tokA L (k + 1) : Nat) : Int) ≤ s.size := by omega
      have o5 : (0 : Int) ≤ tokA L k := by omega
      have HSP : Hid (sprB s g L k ++ s.extract (tokA L k) (tokA L (k + 1)) ++ g ++ ⟨#[10]⟩ = sprB s g L (k + 1)) := Lib.hid rfl
      have hss : (s.size : Int) ≤ 65535 := by omega
      generalize tokA L k = ta at *
      generalize tokA L (k + 1) = tb at *
      generalize sprB s g L k = S0 at *
      go_upto_region 26 with (fail)
      go_quiet (fail)
      rw [HSP.out]
      generalize hS1 : sprB s g L (k + 1) = S1
      have HS1 := Lib.hid hS1
      clear hS1 HSP
      have HUQ := Lib.hid (HNW.out.drewN nq)
      generalize wr.drewN nq = wq at *
      clear ce1 ce2 o1 o2 o3 o4 o5 hss hsz k5
      by_cases hbig : 65536 < S1.size
      · have b1 : (65536 : Int) < S1.size := by omega
        have b2 : decide ((65536 : Int) < (S1.size : Int)) = true := decide_eq_true b1
        clear hbig
        go_wp2_with fail
        go_ret
        exact ⟨rfl, HU10.out.trans HUQ.out⟩
      · have b1 : ¬ (65536 : Int) < S1.size := by omega
        have b2 : decide ((65536 : Int) < (S1.size : Int)) = false := decide_eq_false b1
        have HBG := Lib.hid hbig
        clear hbig
        go_wp2_with fail
        go_roundw
        case measure => simp [intOf]; omega
        case rel => exact ⟨HUQ.out, k + 1, by omega, by simp, by rw [HS1.out], by rw [HS1.out]; have := HBG.out; omega⟩
    · have k2 : ¬ (k : Int) + 1 < L.length := by omega
      obtain rfl : k = n := by omega
      have h16 := H6.out hsz
      have HSZ := Lib.hid hsz
      unfold RdOk at h16
      have H16 := Lib.hid h16
      clear h16 hsz
      generalize sprB s g L k = T at *
      go_wp2_with fail
      refine (H16.out _).mono ?_
      rintro e w11 ⟨A11, c11, bs11, rfl, hu11, ho11, -⟩
      have HU11 := Lib.hid ((HU10.out.trans HNW.out).trans hu11)
      have HO11 := Lib.hid (own_sees ho11 (by have := HMA.out; omega))
      have HP11 := Lib.hid ((HOA.out.new HNW.out).new hu11)
      clear hu11 ho11
      go_wp2_with fail
      refine (sdata_calls _ _ _ _ _ HO11.out HP11.out).mono ?_
      rintro e w12 ⟨rfl, hu12⟩
      have HU12 := Lib.hid (HU11.out.trans hu12)
      clear hu12
      rw [sameL_true rfl]
      go_wp2_with fail
      go_ret
      exact ⟨rfl, HU12.out⟩
set_option maxHeartbeats 8000000 in
set_option maxRecDepth 20000 in
theorem both_x3b_g1 (s t g : ByteArray) (w : World) (hst : (s.size : Int) + t.size ≤ 65535) (hg : (g.size : Int) ≤ 100) (a : List Dat) (p3 : Int) (h1 : RdOk s a) (h2 : RdAny t 0 0) (h3 : RdAny (s ++ ⟨#[10]⟩ ++ t) 62 p3) (eg pg : Int) (h4 : TkAny g eg pg) (x4 : (eg == 0) = false) (x5 : (eg != 0) = true) : Calls Try.prog 7 #[.string s, .string t, .string g] w fun e w' => e = .returned (.bool true) ∧ New w w' := by
  have H1 := Lib.hid h1
  have H2 := Lib.hid h2
  have H3 := Lib.hid h3
  have H4 := Lib.hid h4
  unfold RdOk at H1
  unfold RdAny at H2
  unfold RdAny at H3
  unfold TkAny at H4
  clear h4
  clear h1 h2 h3
  have q1 : ¬ (65535 : Int) < (s.size : Int) + t.size := by omega
  have q2 : decide ((65535 : Int) < (s.size : Int) + t.size) = false := decide_eq_false q1
  have q3 : ¬ (100 : Int) < g.size := by omega
  have q4 : decide ((100 : Int) < (g.size : Int)) = false := decide_eq_false q3
  go_enter Try.func7, Try.ntmps7
  go_wp2_with fail
  refine (works_calls _).mono ?_
  rintro e w1 ⟨rfl, hu1⟩
  have HU1 := Lib.hid hu1
  clear hu1
  go_wp2_with fail
  refine (H1.out _).mono ?_
  rintro e w2 ⟨A2, c2, bs2, rfl, hu2, ho2, -⟩
  have HU2 := Lib.hid (HU1.out.trans hu2)
  have HO2 := Lib.hid ho2
  clear ho2 hu2
  go_wp2_with fail
  refine (H2.out _).mono ?_
  rintro e w3 ⟨A3, n3, c3, rfl, hu3⟩
  have HU3 := Lib.hid (HU2.out.trans hu3)
  have HN3 := Lib.hid hu3
  clear hu3
  go_wp2_with fail
  refine (H3.out _).mono ?_
  rintro e w4 ⟨A4, n4, c4, rfl, hu4⟩
  have HU4 := Lib.hid (HU3.out.trans hu4)
  have HN4 := Lib.hid hu4
  clear hu4
  have HU7 := HU4
  have HU47 : Hid (New w4 w4) := Lib.hid (Upd.refl _ _)
  go_wp2_with fail
  refine (H1.out _).mono ?_
  rintro e w8 ⟨A8, c8, bs8, rfl, hu8, -⟩
  have HU8 := Lib.hid (HU7.out.trans hu8)
  have HN8 := Lib.hid hu8
  clear hu8
  go_wp2_with fail
  refine (H4.out _).mono ?_
  rintro e w9 ⟨A9, n9, c9, rfl, hu9⟩
  have HU9 := Lib.hid (HU8.out.trans hu9)
  clear hu9
  go_wp2_with fail
  go_ret
  exact ⟨rfl, HU9.out⟩
set_option maxHeartbeats 8000000 in
set_option maxRecDepth 20000 in
theorem both_x3b_g2 (s t g : ByteArray) (w : World) (hst : (s.size : Int) + t.size ≤ 65535) (hg : (g.size : Int) ≤ 100) (a : List Dat) (p3 : Int) (h1 : RdOk s a) (h2 : RdAny t 0 0) (h3 : RdAny (s ++ ⟨#[10]⟩ ++ t) 62 p3) (h4 : TkOk g) (x4 : (((toks g 0).1.length : Int) != 1) = true) : Calls Try.prog 7 #[.string s, .string t, .string g] w fun e w' => e = .returned (.bool true) ∧ New w w' := by
  have H1 := Lib.hid h1
  have H2 := Lib.hid h2
  have H3 := Lib.hid h3
  have H4 := Lib.hid h4
  unfold RdOk at H1
  unfold RdAny at H2
  unfold RdAny at H3
  unfold TkOk at H4
  generalize (toks g 0).1.length = NG at *
  clear h1 h2 h3 h4
  have q1 : ¬ (65535 : Int) < (s.size : Int) + t.size := by omega
  have q2 : decide ((65535 : Int) < (s.size : Int) + t.size) = false := decide_eq_false q1
  have q3 : ¬ (100 : Int) < g.size := by omega
  have q4 : decide ((100 : Int) < (g.size : Int)) = false := decide_eq_false q3
  go_enter Try.func7, Try.ntmps7
  go_wp2_with fail
  refine (works_calls _).mono ?_
  rintro e w1 ⟨rfl, hu1⟩
  have HU1 := Lib.hid hu1
  clear hu1
  go_wp2_with fail
  refine (H1.out _).mono ?_
  rintro e w2 ⟨A2, c2, bs2, rfl, hu2, ho2, -⟩
  have HU2 := Lib.hid (HU1.out.trans hu2)
  have HO2 := Lib.hid ho2
  clear ho2 hu2
  go_wp2_with fail
  refine (H2.out _).mono ?_
  rintro e w3 ⟨A3, n3, c3, rfl, hu3⟩
  have HU3 := Lib.hid (HU2.out.trans hu3)
  have HN3 := Lib.hid hu3
  clear hu3
  go_wp2_with fail
  refine (H3.out _).mono ?_
  rintro e w4 ⟨A4, n4, c4, rfl, hu4⟩
  have HU4 := Lib.hid (HU3.out.trans hu4)
  have HN4 := Lib.hid hu4
  clear hu4
  have HU7 := HU4
  have HU47 : Hid (New w4 w4) := Lib.hid (Upd.refl _ _)
  go_wp2_with fail
  refine (H1.out _).mono ?_
  rintro e w8 ⟨A8, c8, bs8, rfl, hu8, -⟩
  have HU8 := Lib.hid (HU7.out.trans hu8)
  have HN8 := Lib.hid hu8
  clear hu8
  go_wp2_with fail
  refine (H4.out _).mono ?_
  rintro e w9 ⟨g9, c9, rfl, hu9, -⟩
  have HU9 := Lib.hid (HU8.out.trans hu9)
  have HN9 := Lib.hid hu9
  clear hu9
  go_wp2_with fail
  go_ret
  exact ⟨rfl, HU9.out⟩
set_option maxHeartbeats 8000000 in
set_option maxRecDepth 20000 in
theorem both_x3b_g3 (s t g : ByteArray) (w : World) (hst : (s.size : Int) + t.size ≤ 65535) (hg : (g.size : Int) ≤ 100) (a : List Dat) (p3 : Int) (h1 : RdOk s a) (h2 : RdAny t 0 0) (h3 : RdAny (s ++ ⟨#[10]⟩ ++ t) 62 p3) (n : Nat) (h4 : TkOk g) (x4 : (toks g 0).1.length = 1) (h5 : TkOk s) (hn : n + 1 = (toks s 0).1.length) (hord : ∀ k, k + 1 < (toks s 0).1.length → tokA (toks s 0).1 k ≤ tokA (toks s 0).1 (k + 1) ∧ tokA (toks s 0).1 (k + 1) ≤ s.size) (hlen : (toks s 0).1.length ≤ 1048577) (h6 : (sprB s g (toks s 0).1 n).size ≤ 65536 → RdOk (sprB s g (toks s 0).1 n) a) (hma : manyL a ≤ 10000) : Calls Try.prog 7 #[.string s, .string t, .string g] w fun e w' => e = .returned (.bool true) ∧ New w w' := by
  have H1 := Lib.hid h1
  have H2 := Lib.hid h2
  have H3 := Lib.hid h3
  have H4 := Lib.hid h4
  unfold RdOk at H1
  unfold RdAny at H2
  unfold RdAny at H3
  have H5 := Lib.hid h5
  have H6 := Lib.hid h6
  have HORD := Lib.hid hord
  have HMA := Lib.hid hma
  unfold TkOk at H4
  rw [x4] at H4
  unfold TkOk at H5
  have hlI : ((toks s 0).1.length : Int) ≤ 1048577 := by omega
  generalize (toks s 0).1 = L at *
  clear h1 h2 h3 h4 h5 h6 hord x4 hlen hma
  have q1 : ¬ (65535 : Int) < (s.size : Int) + t.size := by omega
  have q2 : decide ((65535 : Int) < (s.size : Int) + t.size) = false := decide_eq_false q1
  have q3 : ¬ (100 : Int) < g.size := by omega
  have q4 : decide ((100 : Int) < (g.size : Int)) = false := decide_eq_false q3
  go_enter Try.func7, Try.ntmps7
  go_wp2_with fail
  refine (works_calls _).mono ?_
  rintro e w1 ⟨rfl, hu1⟩
  have HU1 := Lib.hid hu1
  clear hu1
  go_wp2_with fail
  refine (H1.out _).mono ?_
  rintro e w2 ⟨A2, c2, bs2, rfl, hu2, ho2, -⟩
  have HU2 := Lib.hid (HU1.out.trans hu2)
  have HO2 := Lib.hid ho2
  clear ho2 hu2
  go_wp2_with fail
  refine (H2.out _).mono ?_
  rintro e w3 ⟨A3, n3, c3, rfl, hu3⟩
  have HU3 := Lib.hid (HU2.out.trans hu3)
  have HN3 := Lib.hid hu3
  clear hu3
  go_wp2_with fail
  refine (H3.out _).mono ?_
  rintro e w4 ⟨A4, n4, c4, rfl, hu4⟩
  have HU4 := Lib.hid (HU3.out.trans hu4)
  have HN4 := Lib.hid hu4
  clear hu4
  have HU7 := HU4
  have HU47 : Hid (New w4 w4) := Lib.hid (Upd.refl _ _)
  go_wp2_with fail
  refine (H1.out _).mono ?_
  rintro e w8 ⟨A8, c8, bs8, rfl, hu8, -⟩
  have HU8 := Lib.hid (HU7.out.trans hu8)
  have HN8 := Lib.hid hu8
  clear hu8
  go_wp2_with fail
  refine (H4.out _).mono ?_
  rintro e w9 ⟨g9, c9, rfl, hu9, -⟩
  have HU9 := Lib.hid (HU8.out.trans hu9)
  have HN9 := Lib.hid hu9
  clear hu9
  go_wp2_with fail
  refine (H5.out _).mono ?_
  rintro e w10 ⟨tg, tc, rfl, hu10, ht10⟩
  have HU10 := Lib.hid (HU9.out.trans hu10)
  have HT10 := Lib.hid ht10
  have HOA := Lib.hid ((own_sees HO2.out (by have := HMA.out; omega)).new (HN3.out.trans (HN4.out.trans (HU47.out.trans (HN8.out.trans (HN9.out.trans hu10))))))
  clear hu10 ht10
  go_wp2_with fail
  go_loopw [31, 32] (fun sv i wr => New w10 wr ∧ ∃ k : Nat, k + 1 ≤ L.length ∧ i = .int .i64 k ∧ sv = .string (sprB s g L k) ∧ (sprB s g L k).size ≤ 65536) (fun _ i _ => L.length - (intOf i).toNat)
  case atStart => exact ⟨Upd.refl _ _, 0, by omega, rfl, rfl, Nat.zero_le _⟩
  case round =>
    obtain ⟨hnw, k, hk, rfl, rfl, hsz⟩ := hrel
    have HNW := Lib.hid hnw
    have HTR := Lib.hid (HT10.out.new hnw)
    clear hnw
    have k0 : (0 : Int) ≤ k := by omega
    have k1 : IntKind.i64.wrap ((k : Int) + 1) = (k : Int) + 1 := IntWalk.i64_in _ (by omega)
    by_cases hkl : k + 1 < L.length
    · have k2 : (k : Int) + 1 < L.length := by omega
      have k3 : (k : Int) < L.length := by omega
      have k4 : (0 : Int) ≤ (k : Int) + 1 := by omega
      have k5 : ((k : Int) + 1).toNat = k + 1 := by omega
      obtain ⟨o1, o2⟩ := HORD.out k hkl
      obtain ⟨-, -, -, ce1⟩ := tok_kind HTR.out (show k < L.length by omega)
      obtain ⟨-, -, -, ce2⟩ := tok_kind HTR.out hkl
      have o3 : ((tokA L k : Nat) : Int) ≤ tokA L (k + 1) := by omega
      have o4 : ((tokA L (k + 1) : Nat) : Int) ≤ s.size := by omega
      have o5 : (0 : Int) ≤ tokA L k := by omega
      have HSP : Hid (sprB s g L k ++ s.extract (tokA L k) (tokA L (k + 1)) ++ g ++ ⟨#[10]⟩ = sprB s g L (k + 1)) := Lib.hid rfl
      have hss : (s.size : Int) ≤ 65535 := by omega
      generalize tokA L k = ta at *
      generalize tokA L (k + 1) = tb at *
      generalize sprB s g L k = S0 at *
      go_upto_region 26 with (fail)
      go_quiet (fail)
      rw [HSP.out]
      generalize hS1 : sprB s g L (k + 1) = S1
      have HS1 := Lib.hid hS1
      clear hS1 HSP
      have HUQ := Lib.hid (HNW.out.drewN nq)
      generalize wr.drewN nq = wq at *
      clear ce1 ce2 o1 o2 o3 o4 o5 hss hsz k5
      by_cases hbig : 65536 < S1.size
      · have b1 : (65536 : Int) < S1.size := by omega
        have b2 : decide ((65536 : Int) < (S1.size : Int)) = true := decide_eq_true b1
        clear hbig
        go_wp2_with fail
        go_ret
        exact ⟨rfl, HU10.out.trans HUQ.out⟩
      · have b1 : ¬ (65536 : Int) < S1.size := by omega
        have b2 : decide ((65536 : Int) < (S1.size : Int)) = false := decide_eq_false b1
        have HBG := Lib.hid hbig
        clear hbig
        go_wp2_with fail
        go_roundw
        case measure => simp [intOf]; omega
        case rel => exact ⟨HUQ.out, k + 1, by omega, by simp, by rw [HS1.out], by rw [HS1.out]; have := HBG.out; omega⟩
    · have k2 : ¬ (k : Int) + 1 < L.length := by omega
      obtain rfl : k = n := by omega
      have h16 := H6.out hsz
      have HSZ := Lib.hid hsz
      unfold RdOk at h16
      have H16 := Lib.hid h16
      clear h16 hsz
      generalize sprB s g L k = T at *
      go_wp2_with fail
      refine (H16.out _).mono ?_
      rintro e w11 ⟨A11, c11, bs11, rfl, hu11, ho11, -⟩
      have HU11 := Lib.hid ((HU10.out.trans HNW.out).trans hu11)
      have HO11 := Lib.hid (own_sees ho11 (by have := HMA.out; omega))
      have HP11 := Lib.hid ((HOA.out.new HNW.out).new hu11)
      clear hu11 ho11
      go_wp2_with fail
      refine (sdata_calls _ _ _ _ _ HO11.out HP11.out).mono ?_
      rintro e w12 ⟨rfl, hu12⟩
      have HU12 := Lib.hid (HU11.out.trans hu12)
      clear hu12
      rw [sameL_true rfl]
      go_wp2_with fail
      go_ret
      exact ⟨rfl, HU12.out⟩
set_option maxHeartbeats 8000000 in
set_option maxRecDepth 20000 in
theorem both_x3a_g1 (s t g : ByteArray) (w : World) (hst : (s.size : Int) + t.size ≤ 65535) (hg : (g.size : Int) ≤ 100) (a b d : List Dat) (h1 : RdOk s a) (h2 : RdOk t b) (h3 : RdOk (s ++ ⟨#[10]⟩ ++ t) d) (hd : d = a ++ b) (ma : manyL a ≤ 10000) (mb : manyL b ≤ 10000) (eg pg : Int) (h4 : TkAny g eg pg) (x4 : (eg == 0) = false) (x5 : (eg != 0) = true) : Calls Try.prog 7 #[.string s, .string t, .string g] w fun e w' => e = .returned (.bool true) ∧ New w w' := by
  have H1 := Lib.hid h1
  have H2 := Lib.hid h2
  have H3 := Lib.hid h3
  have H4 := Lib.hid h4
  unfold RdOk at H1
  unfold RdOk at H2
  unfold RdOk at H3
  have HD := Lib.hid hd
  have MA := Lib.hid ma
  have MB := Lib.hid mb
  unfold TkAny at H4
  clear h4
  clear h1 h2 h3 hd ma mb
  have q1 : ¬ (65535 : Int) < (s.size : Int) + t.size := by omega
  have q2 : decide ((65535 : Int) < (s.size : Int) + t.size) = false := decide_eq_false q1
  have q3 : ¬ (100 : Int) < g.size := by omega
  have q4 : decide ((100 : Int) < (g.size : Int)) = false := decide_eq_false q3
  go_enter Try.func7, Try.ntmps7
  go_wp2_with fail
  refine (works_calls _).mono ?_
  rintro e w1 ⟨rfl, hu1⟩
  have HU1 := Lib.hid hu1
  clear hu1
  go_wp2_with fail
  refine (H1.out _).mono ?_
  rintro e w2 ⟨A2, c2, bs2, rfl, hu2, ho2, -⟩
  have HU2 := Lib.hid (HU1.out.trans hu2)
  have HO2 := Lib.hid ho2
  have HM2 := HO2
  clear ho2
  go_wp2_with fail
  refine (H2.out _).mono ?_
  rintro e w3 ⟨A3, c3, bs3, rfl, hu3, ho3, -⟩
  have HU3 := Lib.hid (HU2.out.trans hu3)
  have HO3 := Lib.hid ho3
  have HN3 := Lib.hid hu3
  clear hu3 ho3 hu2
  go_wp2_with fail
  refine (H3.out _).mono ?_
  rintro e w4 ⟨A4, c4, bs4, rfl, hu4, ho4, -⟩
  have HU4 := Lib.hid (HU3.out.trans hu4)
  have HO4 := Lib.hid ho4
  have HN4 := Lib.hid hu4
  clear hu4 ho4
  obtain ⟨i0, hi0, hz0, hz1, hz2⟩ := info_parts info58
  obtain ⟨esa, hea, -, rowa, hka, onea⟩ := (HO2.out.upd (HN3.out.trans HN4.out) (fun _ _ x => x)).es
  obtain ⟨esb, heb, -, rowb, hkb, oneb⟩ := (HO3.out.upd HN4.out (fun _ _ x => x)).es
  have lea : esa.length = a.length := by rw [hea, List.length_map]
  have leb : esb.length = b.length := by rw [heb, List.length_map]
  have la := len_many a
  have lb := len_many b
  have hla : a.length ≤ 10000 := by have := MA.out; omega
  have hlb : b.length ≤ 10000 := by have := MB.out; omega
  rw [lea] at rowa
  rw [leb] at rowb
  have HRA := Lib.hid rowa
  have HRB := Lib.hid rowb
  have HKA := Lib.hid hka
  have HKB := Lib.hid hkb
  have HNA := Lib.hid onea
  have HNB := Lib.hid oneb
  have HEA := Lib.hid hea
  have HEB := Lib.hid heb
  have HLA := Lib.hid lea
  have HLB := Lib.hid leb
  have M1 := Lib.hid (show 0 + a.length ≤ maxLen by unfold maxLen; omega)
  have M2 := Lib.hid (show (0 + a.length) * 64 ≤ 140737488355328 by omega)
  have M3 := Lib.hid (show a.length + b.length ≤ maxLen by unfold maxLen; omega)
  have M4 := Lib.hid (show (a.length + b.length) * 64 ≤ 140737488355328 by omega)
  have HSC := Lib.hid (own_sees HO4.out (by rw [HD.out, manyL_append]; have := MA.out; have := MB.out; omega))
  clear hea heb rowa rowb hka hkb onea oneb lea leb la lb
  go_upto_region 10 with (first
    | (at_builtin; refine wpList_append_row w4 (by rfl) (.tmp 81) (.tmp 82) 23 (by rfl) w4.heap.size 58 i0 _ 5 64 Try.underlying23 hi0 hz0 hz1 hz2 rfl (by decide) (.slice none 0 0) 0 [] (by rfl) ⟨rfl, .inl ⟨rfl, rfl⟩⟩ (.slice A2 a.length c2) a.length (elCells esa) (by rfl) (SrcRow.own HRA.out) HNA.out M1.out M2.out (Nat.le_refl _) ?_; intro v1 w5 ho5 hg5 hat5; rw [Nat.zero_add, List.nil_append] at ho5; obtain ⟨A5, c5, rfl⟩ := own_form ho5; have HN5 : Hid (New w4 w5) := Lib.hid ((Upd.refl (fun _ => False) w4).grown hg5 (fun q hq _ => by simp [Value.ownBlock] at hq)); have HR5 := Lib.hid ho5; clear ho5 hg5 hat5)
    | (at_builtin; refine wpList_append_row w5 (by rfl) (.tmp 83) (.tmp 84) 23 (by rfl) w4.heap.size 58 i0 _ 5 64 Try.underlying23 hi0 hz0 hz1 hz2 rfl (by decide) (.slice A5 a.length c5) a.length (elCells esa) (by rfl) HR5.out (.slice A3 b.length c3) b.length (elCells esb) (by rfl) (SrcRow.own (ownsRow_frame HRB.out (fun q hq => HN5.out.block q (own_lt HRB.out q hq).2 (fun x => x)))) HNB.out M3.out M4.out HN5.out.size ?_; intro v2 w6 ho6 hg6 hat6; obtain ⟨A6, c6, rfl⟩ := own_form ho6; have HN6 : Hid (New w4 w6) := Lib.hid (HN5.out.grown hg6 (fun q hq hl => by have := (own_lt HR5.out q hq).1; omega)); have HR6 := Lib.hid ho6; clear ho6 hg6 hat6))
  have hboth : Sees w6 All (.slice A6 (a.length + b.length) c6) d := by
    have h1 : w6.ownsRow w4.heap.size 58 5 (.slice A6 (a.length + b.length) c6) (esa ++ esb).length (elCells (esa ++ esb)) := by
      rw [List.length_append, HLA.out, HLB.out, elCells_append]; exact HR6.out
    have h2 := sees_row h1 (by rw [List.length_append, HLA.out, HLB.out]; omega) (fun e he => by
      rcases List.mem_append.1 he with he | he
      · refine (own_sees (HKA.out e he) ?_).new HN6.out
        have h3 := manyL_mem e.d (show e.d ∈ a by rw [HEA.out]; exact List.mem_map.2 ⟨e, he, rfl⟩)
        have := MA.out
        omega
      · refine (own_sees (HKB.out e he) ?_).new HN6.out
        have h3 := manyL_mem e.d (show e.d ∈ b by rw [HEB.out]; exact List.mem_map.2 ⟨e, he, rfl⟩)
        have := MB.out
        omega)
    rw [List.map_append, ← HEA.out, ← HEB.out, ← HD.out] at h2
    exact h2
  have HBO := Lib.hid hboth
  have HU6 := Lib.hid (HU4.out.trans HN6.out)
  clear hboth
  go_wp2_with fail
  refine (sdata_calls d d _ _ _ (HSC.out.new HN6.out) HBO.out).mono ?_
  rintro e w7 ⟨rfl, hu7⟩
  have HU7 := Lib.hid (HU6.out.trans hu7)
  have HU47 := Lib.hid (HN6.out.trans hu7)
  clear hu7
  rw [sameL_true rfl]
  go_wp2_with fail
  refine (H1.out _).mono ?_
  rintro e w8 ⟨A8, c8, bs8, rfl, hu8, -⟩
  have HU8 := Lib.hid (HU7.out.trans hu8)
  have HN8 := Lib.hid hu8
  clear hu8
  go_wp2_with fail
  refine (H4.out _).mono ?_
  rintro e w9 ⟨A9, n9, c9, rfl, hu9⟩
  have HU9 := Lib.hid (HU8.out.trans hu9)
  clear hu9
  go_wp2_with fail
  go_ret
  exact ⟨rfl, HU9.out⟩
set_option maxHeartbeats 8000000 in
set_option maxRecDepth 20000 in
theorem both_x3a_g2 (s t g : ByteArray) (w : World) (hst : (s.size : Int) + t.size ≤ 65535) (hg : (g.size : Int) ≤ 100) (a b d : List Dat) (h1 : RdOk s a) (h2 : RdOk t b) (h3 : RdOk (s ++ ⟨#[10]⟩ ++ t) d) (hd : d = a ++ b) (ma : manyL a ≤ 10000) (mb : manyL b ≤ 10000) (h4 : TkOk g) (x4 : (((toks g 0).1.length : Int) != 1) = true) : Calls Try.prog 7 #[.string s, .string t, .string g] w fun e w' => e = .returned (.bool true) ∧ New w w' := by
  have H1 := Lib.hid h1
  have H2 := Lib.hid h2
  have H3 := Lib.hid h3
  have H4 := Lib.hid h4
  unfold RdOk at H1
  unfold RdOk at H2
  unfold RdOk at H3
  have HD := Lib.hid hd
  have MA := Lib.hid ma
  have MB := Lib.hid mb
  unfold TkOk at H4
  generalize (toks g 0).1.length = NG at *
  clear h1 h2 h3 h4 hd ma mb
  have q1 : ¬ (65535 : Int) < (s.size : Int) + t.size := by omega
  have q2 : decide ((65535 : Int) < (s.size : Int) + t.size) = false := decide_eq_false q1
  have q3 : ¬ (100 : Int) < g.size := by omega
  have q4 : decide ((100 : Int) < (g.size : Int)) = false := decide_eq_false q3
  go_enter Try.func7, Try.ntmps7
  go_wp2_with fail
  refine (works_calls _).mono ?_
  rintro e w1 ⟨rfl, hu1⟩
  have HU1 := Lib.hid hu1
  clear hu1
  go_wp2_with fail
  refine (H1.out _).mono ?_
  rintro e w2 ⟨A2, c2, bs2, rfl, hu2, ho2, -⟩
  have HU2 := Lib.hid (HU1.out.trans hu2)
  have HO2 := Lib.hid ho2
  have HM2 := HO2
  clear ho2
  go_wp2_with fail
  refine (H2.out _).mono ?_
  rintro e w3 ⟨A3, c3, bs3, rfl, hu3, ho3, -⟩
  have HU3 := Lib.hid (HU2.out.trans hu3)
  have HO3 := Lib.hid ho3
  have HN3 := Lib.hid hu3
  clear hu3 ho3 hu2
  go_wp2_with fail
  refine (H3.out _).mono ?_
  rintro e w4 ⟨A4, c4, bs4, rfl, hu4, ho4, -⟩
  have HU4 := Lib.hid (HU3.out.trans hu4)
  have HO4 := Lib.hid ho4
  have HN4 := Lib.hid hu4
  clear hu4 ho4
  obtain ⟨i0, hi0, hz0, hz1, hz2⟩ := info_parts info58
  obtain ⟨esa, hea, -, rowa, hka, onea⟩ := (HO2.out.upd (HN3.out.trans HN4.out) (fun _ _ x => x)).es
  obtain ⟨esb, heb, -, rowb, hkb, oneb⟩ := (HO3.out.upd HN4.out (fun _ _ x => x)).es
  have lea : esa.length = a.length := by rw [hea, List.length_map]
  have leb : esb.length = b.length := by rw [heb, List.length_map]
  have la := len_many a
  have lb := len_many b
  have hla : a.length ≤ 10000 := by have := MA.out; omega
  have hlb : b.length ≤ 10000 := by have := MB.out; omega
  rw [lea] at rowa
  rw [leb] at rowb
  have HRA := Lib.hid rowa
  have HRB := Lib.hid rowb
  have HKA := Lib.hid hka
  have HKB := Lib.hid hkb
  have HNA := Lib.hid onea
  have HNB := Lib.hid oneb
  have HEA := Lib.hid hea
  have HEB := Lib.hid heb
  have HLA := Lib.hid lea
  have HLB := Lib.hid leb
  have M1 := Lib.hid (show 0 + a.length ≤ maxLen by unfold maxLen; omega)
  have M2 := Lib.hid (show (0 + a.length) * 64 ≤ 140737488355328 by omega)
  have M3 := Lib.hid (show a.length + b.length ≤ maxLen by unfold maxLen; omega)
  have M4 := Lib.hid (show (a.length + b.length) * 64 ≤ 140737488355328 by omega)
  have HSC := Lib.hid (own_sees HO4.out (by rw [HD.out, manyL_append]; have := MA.out; have := MB.out; omega))
  clear hea heb rowa rowb hka hkb onea oneb lea leb la lb
  go_upto_region 10 with (first
    | (at_builtin; refine wpList_append_row w4 (by rfl) (.tmp 81) (.tmp 82) 23 (by rfl) w4.heap.size 58 i0 _ 5 64 Try.underlying23 hi0 hz0 hz1 hz2 rfl (by decide) (.slice none 0 0) 0 [] (by rfl) ⟨rfl, .inl ⟨rfl, rfl⟩⟩ (.slice A2 a.length c2) a.length (elCells esa) (by rfl) (SrcRow.own HRA.out) HNA.out M1.out M2.out (Nat.le_refl _) ?_; intro v1 w5 ho5 hg5 hat5; rw [Nat.zero_add, List.nil_append] at ho5; obtain ⟨A5, c5, rfl⟩ := own_form ho5; have HN5 : Hid (New w4 w5) := Lib.hid ((Upd.refl (fun _ => False) w4).grown hg5 (fun q hq _ => by simp [Value.ownBlock] at hq)); have HR5 := Lib.hid ho5; clear ho5 hg5 hat5)
    | (at_builtin; refine wpList_append_row w5 (by rfl) (.tmp 83) (.tmp 84) 23 (by rfl) w4.heap.size 58 i0 _ 5 64 Try.underlying23 hi0 hz0 hz1 hz2 rfl (by decide) (.slice A5 a.length c5) a.length (elCells esa) (by rfl) HR5.out (.slice A3 b.length c3) b.length (elCells esb) (by rfl) (SrcRow.own (ownsRow_frame HRB.out (fun q hq => HN5.out.block q (own_lt HRB.out q hq).2 (fun x => x)))) HNB.out M3.out M4.out HN5.out.size ?_; intro v2 w6 ho6 hg6 hat6; obtain ⟨A6, c6, rfl⟩ := own_form ho6; have HN6 : Hid (New w4 w6) := Lib.hid (HN5.out.grown hg6 (fun q hq hl => by have := (own_lt HR5.out q hq).1; omega)); have HR6 := Lib.hid ho6; clear ho6 hg6 hat6))
  have hboth : Sees w6 All (.slice A6 (a.length + b.length) c6) d := by
    have h1 : w6.ownsRow w4.heap.size 58 5 (.slice A6 (a.length + b.length) c6) (esa ++ esb).length (elCells (esa ++ esb)) := by
      rw [List.length_append, HLA.out, HLB.out, elCells_append]; exact HR6.out
    have h2 := sees_row h1 (by rw [List.length_append, HLA.out, HLB.out]; omega) (fun e he => by
      rcases List.mem_append.1 he with he | he
      · refine (own_sees (HKA.out e he) ?_).new HN6.out
        have h3 := manyL_mem e.d (show e.d ∈ a by rw [HEA.out]; exact List.mem_map.2 ⟨e, he, rfl⟩)
        have := MA.out
        omega
      · refine (own_sees (HKB.out e he) ?_).new HN6.out
        have h3 := manyL_mem e.d (show e.d ∈ b by rw [HEB.out]; exact List.mem_map.2 ⟨e, he, rfl⟩)
        have := MB.out
        omega)
    rw [List.map_append, ← HEA.out, ← HEB.out, ← HD.out] at h2
    exact h2
  have HBO := Lib.hid hboth
  have HU6 := Lib.hid (HU4.out.trans HN6.out)
  clear hboth
  go_wp2_with fail
  refine (sdata_calls d d _ _ _ (HSC.out.new HN6.out) HBO.out).mono ?_
  rintro e w7 ⟨rfl, hu7⟩
  have HU7 := Lib.hid (HU6.out.trans hu7)
  have HU47 := Lib.hid (HN6.out.trans hu7)
  clear hu7
  rw [sameL_true rfl]
  go_wp2_with fail
  refine (H1.out _).mono ?_
  rintro e w8 ⟨A8, c8, bs8, rfl, hu8, -⟩
  have HU8 := Lib.hid (HU7.out.trans hu8)
  have HN8 := Lib.hid hu8
  clear hu8
  go_wp2_with fail
  refine (H4.out _).mono ?_
  rintro e w9 ⟨g9, c9, rfl, hu9, -⟩
  have HU9 := Lib.hid (HU8.out.trans hu9)
  have HN9 := Lib.hid hu9
  clear hu9
  go_wp2_with fail
  go_ret
  exact ⟨rfl, HU9.out⟩
set_option maxHeartbeats 8000000 in
set_option maxRecDepth 20000 in
theorem both_x3a_g3 (s t g : ByteArray) (w : World) (hst : (s.size : Int) + t.size ≤ 65535) (hg : (g.size : Int) ≤ 100) (a b d : List Dat) (h1 : RdOk s a) (h2 : RdOk t b) (h3 : RdOk (s ++ ⟨#[10]⟩ ++ t) d) (hd : d = a ++ b) (ma : manyL a ≤ 10000) (mb : manyL b ≤ 10000) (n : Nat) (h4 : TkOk g) (x4 : (toks g 0).1.length = 1) (h5 : TkOk s) (hn : n + 1 = (toks s 0).1.length) (hord : ∀ k, k + 1 < (toks s 0).1.length → tokA (toks s 0).1 k ≤ tokA (toks s 0).1 (k + 1) ∧ tokA (toks s 0).1 (k + 1) ≤ s.size) (hlen : (toks s 0).1.length ≤ 1048577) (h6 : (sprB s g (toks s 0).1 n).size ≤ 65536 → RdOk (sprB s g (toks s 0).1 n) a) (hma : manyL a ≤ 10000) : Calls Try.prog 7 #[.string s, .string t, .string g] w fun e w' => e = .returned (.bool true) ∧ New w w' := by
  have H1 := Lib.hid h1
  have H2 := Lib.hid h2
  have H3 := Lib.hid h3
  have H4 := Lib.hid h4
  unfold RdOk at H1
  unfold RdOk at H2
  unfold RdOk at H3
  have H5 := Lib.hid h5
  have H6 := Lib.hid h6
  have HORD := Lib.hid hord
  have HMA := Lib.hid hma
  have HD := Lib.hid hd
  have MA := Lib.hid ma
  have MB := Lib.hid mb
  unfold TkOk at H4
  rw [x4] at H4
  unfold TkOk at H5
  have hlI : ((toks s 0).1.length : Int) ≤ 1048577 := by omega
  generalize (toks s 0).1 = L at *
  clear h1 h2 h3 h4 h5 h6 hord x4 hlen hma hd ma mb
  have q1 : ¬ (65535 : Int) < (s.size : Int) + t.size := by omega
  have q2 : decide ((65535 : Int) < (s.size : Int) + t.size) = false := decide_eq_false q1
  have q3 : ¬ (100 : Int) < g.size := by omega
  have q4 : decide ((100 : Int) < (g.size : Int)) = false := decide_eq_false q3
  go_enter Try.func7, Try.ntmps7
  go_wp2_with fail
  refine (works_calls _).mono ?_
  rintro e w1 ⟨rfl, hu1⟩
  have HU1 := Lib.hid hu1
  clear hu1
  go_wp2_with fail
  refine (H1.out _).mono ?_
  rintro e w2 ⟨A2, c2, bs2, rfl, hu2, ho2, -⟩
  have HU2 := Lib.hid (HU1.out.trans hu2)
  have HO2 := Lib.hid ho2
  have HM2 := HO2
  clear ho2
  go_wp2_with fail
  refine (H2.out _).mono ?_
  rintro e w3 ⟨A3, c3, bs3, rfl, hu3, ho3, -⟩
  have HU3 := Lib.hid (HU2.out.trans hu3)
  have HO3 := Lib.hid ho3
  have HN3 := Lib.hid hu3
  clear hu3 ho3 hu2
  go_wp2_with fail
  refine (H3.out _).mono ?_
  rintro e w4 ⟨A4, c4, bs4, rfl, hu4, ho4, -⟩
  have HU4 := Lib.hid (HU3.out.trans hu4)
  have HO4 := Lib.hid ho4
  have HN4 := Lib.hid hu4
  clear hu4 ho4
  obtain ⟨i0, hi0, hz0, hz1, hz2⟩ := info_parts info58
  obtain ⟨esa, hea, -, rowa, hka, onea⟩ := (HO2.out.upd (HN3.out.trans HN4.out) (fun _ _ x => x)).es
  obtain ⟨esb, heb, -, rowb, hkb, oneb⟩ := (HO3.out.upd HN4.out (fun _ _ x => x)).es
  have lea : esa.length = a.length := by rw [hea, List.length_map]
  have leb : esb.length = b.length := by rw [heb, List.length_map]
  have la := len_many a
  have lb := len_many b
  have hla : a.length ≤ 10000 := by have := MA.out; omega
  have hlb : b.length ≤ 10000 := by have := MB.out; omega
  rw [lea] at rowa
  rw [leb] at rowb
  have HRA := Lib.hid rowa
  have HRB := Lib.hid rowb
  have HKA := Lib.hid hka
  have HKB := Lib.hid hkb
  have HNA := Lib.hid onea
  have HNB := Lib.hid oneb
  have HEA := Lib.hid hea
  have HEB := Lib.hid heb
  have HLA := Lib.hid lea
  have HLB := Lib.hid leb
  have M1 := Lib.hid (show 0 + a.length ≤ maxLen by unfold maxLen; omega)
  have M2 := Lib.hid (show (0 + a.length) * 64 ≤ 140737488355328 by omega)
  have M3 := Lib.hid (show a.length + b.length ≤ maxLen by unfold maxLen; omega)
  have M4 := Lib.hid (show (a.length + b.length) * 64 ≤ 140737488355328 by omega)
  have HSC := Lib.hid (own_sees HO4.out (by rw [HD.out, manyL_append]; have := MA.out; have := MB.out; omega))
  clear hea heb rowa rowb hka hkb onea oneb lea leb la lb
  go_upto_region 10 with (first
    | (at_builtin; refine wpList_append_row w4 (by rfl) (.tmp 81) (.tmp 82) 23 (by rfl) w4.heap.size 58 i0 _ 5 64 Try.underlying23 hi0 hz0 hz1 hz2 rfl (by decide) (.slice none 0 0) 0 [] (by rfl) ⟨rfl, .inl ⟨rfl, rfl⟩⟩ (.slice A2 a.length c2) a.length (elCells esa) (by rfl) (SrcRow.own HRA.out) HNA.out M1.out M2.out (Nat.le_refl _) ?_; intro v1 w5 ho5 hg5 hat5; rw [Nat.zero_add, List.nil_append] at ho5; obtain ⟨A5, c5, rfl⟩ := own_form ho5; have HN5 : Hid (New w4 w5) := Lib.hid ((Upd.refl (fun _ => False) w4).grown hg5 (fun q hq _ => by simp [Value.ownBlock] at hq)); have HR5 := Lib.hid ho5; clear ho5 hg5 hat5)
    | (at_builtin; refine wpList_append_row w5 (by rfl) (.tmp 83) (.tmp 84) 23 (by rfl) w4.heap.size 58 i0 _ 5 64 Try.underlying23 hi0 hz0 hz1 hz2 rfl (by decide) (.slice A5 a.length c5) a.length (elCells esa) (by rfl) HR5.out (.slice A3 b.length c3) b.length (elCells esb) (by rfl) (SrcRow.own (ownsRow_frame HRB.out (fun q hq => HN5.out.block q (own_lt HRB.out q hq).2 (fun x => x)))) HNB.out M3.out M4.out HN5.out.size ?_; intro v2 w6 ho6 hg6 hat6; obtain ⟨A6, c6, rfl⟩ := own_form ho6; have HN6 : Hid (New w4 w6) := Lib.hid (HN5.out.grown hg6 (fun q hq hl => by have := (own_lt HR5.out q hq).1; omega)); have HR6 := Lib.hid ho6; clear ho6 hg6 hat6))
  have hboth : Sees w6 All (.slice A6 (a.length + b.length) c6) d := by
    have h1 : w6.ownsRow w4.heap.size 58 5 (.slice A6 (a.length + b.length) c6) (esa ++ esb).length (elCells (esa ++ esb)) := by
      rw [List.length_append, HLA.out, HLB.out, elCells_append]; exact HR6.out
    have h2 := sees_row h1 (by rw [List.length_append, HLA.out, HLB.out]; omega) (fun e he => by
      rcases List.mem_append.1 he with he | he
      · refine (own_sees (HKA.out e he) ?_).new HN6.out
        have h3 := manyL_mem e.d (show e.d ∈ a by rw [HEA.out]; exact List.mem_map.2 ⟨e, he, rfl⟩)
        have := MA.out
        omega
      · refine (own_sees (HKB.out e he) ?_).new HN6.out
        have h3 := manyL_mem e.d (show e.d ∈ b by rw [HEB.out]; exact List.mem_map.2 ⟨e, he, rfl⟩)
        have := MB.out
        omega)
    rw [List.map_append, ← HEA.out, ← HEB.out, ← HD.out] at h2
    exact h2
  have HBO := Lib.hid hboth
  have HU6 := Lib.hid (HU4.out.trans HN6.out)
  clear hboth
  go_wp2_with fail
  refine (sdata_calls d d _ _ _ (HSC.out.new HN6.out) HBO.out).mono ?_
  rintro e w7 ⟨rfl, hu7⟩
  have HU7 := Lib.hid (HU6.out.trans hu7)
  have HU47 := Lib.hid (HN6.out.trans hu7)
  clear hu7
  rw [sameL_true rfl]
  go_wp2_with fail
  refine (H1.out _).mono ?_
  rintro e w8 ⟨A8, c8, bs8, rfl, hu8, -⟩
  have HU8 := Lib.hid (HU7.out.trans hu8)
  have HN8 := Lib.hid hu8
  clear hu8
  go_wp2_with fail
  refine (H4.out _).mono ?_
  rintro e w9 ⟨g9, c9, rfl, hu9, -⟩
  have HU9 := Lib.hid (HU8.out.trans hu9)
  have HN9 := Lib.hid hu9
  clear hu9
  go_wp2_with fail
  refine (H5.out _).mono ?_
  rintro e w10 ⟨tg, tc, rfl, hu10, ht10⟩
  have HU10 := Lib.hid (HU9.out.trans hu10)
  have HT10 := Lib.hid ht10
  have HOA := Lib.hid ((own_sees HO2.out (by have := HMA.out; omega)).new (HN3.out.trans (HN4.out.trans (HU47.out.trans (HN8.out.trans (HN9.out.trans hu10))))))
  clear hu10 ht10
  go_wp2_with fail
  go_loopw [31, 32] (fun sv i wr => New w10 wr ∧ ∃ k : Nat, k + 1 ≤ L.length ∧ i = .int .i64 k ∧ sv = .string (sprB s g L k) ∧ (sprB s g L k).size ≤ 65536) (fun _ i _ => L.length - (intOf i).toNat)
  case atStart => exact ⟨Upd.refl _ _, 0, by omega, rfl, rfl, Nat.zero_le _⟩
  case round =>
    obtain ⟨hnw, k, hk, rfl, rfl, hsz⟩ := hrel
    have HNW := Lib.hid hnw
    have HTR := Lib.hid (HT10.out.new hnw)
    clear hnw
    have k0 : (0 : Int) ≤ k := by omega
    have k1 : IntKind.i64.wrap ((k : Int) + 1) = (k : Int) + 1 := IntWalk.i64_in _ (by omega)
    by_cases hkl : k + 1 < L.length
    · have k2 : (k : Int) + 1 < L.length := by omega
      have k3 : (k : Int) < L.length := by omega
      have k4 : (0 : Int) ≤ (k : Int) + 1 := by omega
      have k5 : ((k : Int) + 1).toNat = k + 1 := by omega
      obtain ⟨o1, o2⟩ := HORD.out k hkl
      obtain ⟨-, -, -, ce1⟩ := tok_kind HTR.out (show k < L.length by omega)
      obtain ⟨-, -, -, ce2⟩ := tok_kind HTR.out hkl
      have o3 : ((tokA L k : Nat) : Int) ≤ tokA L (k + 1) := by omega
      have o4 : ((tokA L (k + 1) : Nat) : Int) ≤ s.size := by omega
      have o5 : (0 : Int) ≤ tokA L k := by omega
      have HSP : Hid (sprB s g L k ++ s.extract (tokA L k) (tokA L (k + 1)) ++ g ++ ⟨#[10]⟩ = sprB s g L (k + 1)) := Lib.hid rfl
      have hss : (s.size : Int) ≤ 65535 := by omega
      generalize tokA L k = ta at *
      generalize tokA L (k + 1) = tb at *
      generalize sprB s g L k = S0 at *
      go_upto_region 26 with (fail)
      go_quiet (fail)
      rw [HSP.out]
      generalize hS1 : sprB s g L (k + 1) = S1
      have HS1 := Lib.hid hS1
      clear hS1 HSP
      have HUQ := Lib.hid (HNW.out.drewN nq)
      generalize wr.drewN nq = wq at *
      clear ce1 ce2 o1 o2 o3 o4 o5 hss hsz k5
      by_cases hbig : 65536 < S1.size
      · have b1 : (65536 : Int) < S1.size := by omega
        have b2 : decide ((65536 : Int) < (S1.size : Int)) = true := decide_eq_true b1
        clear hbig
        go_wp2_with fail
        go_ret
        exact ⟨rfl, HU10.out.trans HUQ.out⟩
      · have b1 : ¬ (65536 : Int) < S1.size := by omega
        have b2 : decide ((65536 : Int) < (S1.size : Int)) = false := decide_eq_false b1
        have HBG := Lib.hid hbig
        clear hbig
        go_wp2_with fail
        go_roundw
        case measure => simp [intOf]; omega
        case rel => exact ⟨HUQ.out, k + 1, by omega, by simp, by rw [HS1.out], by rw [HS1.out]; have := HBG.out; omega⟩
    · have k2 : ¬ (k : Int) + 1 < L.length := by omega
      obtain rfl : k = n := by omega
      have h16 := H6.out hsz
      have HSZ := Lib.hid hsz
      unfold RdOk at h16
      have H16 := Lib.hid h16
      clear h16 hsz
      generalize sprB s g L k = T at *
      go_wp2_with fail
      refine (H16.out _).mono ?_
      rintro e w11 ⟨A11, c11, bs11, rfl, hu11, ho11, -⟩
      have HU11 := Lib.hid ((HU10.out.trans HNW.out).trans hu11)
      have HO11 := Lib.hid (own_sees ho11 (by have := HMA.out; omega))
      have HP11 := Lib.hid ((HOA.out.new HNW.out).new hu11)
      clear hu11 ho11
      go_wp2_with fail
      refine (sdata_calls _ _ _ _ _ HO11.out HP11.out).mono ?_
      rintro e w12 ⟨rfl, hu12⟩
      have HU12 := Lib.hid (HU11.out.trans hu12)
      clear hu12
      rw [sameL_true rfl]
      go_wp2_with fail
      go_ret
      exact ⟨rfl, HU12.out⟩
theorem ord_toks (s : ByteArray) (h0 : (toks s 0).2.1 = 0) (k : Nat) (hk : k + 1 < (toks s 0).1.length) : tokA (toks s 0).1 k ≤ tokA (toks s 0).1 (k + 1) ∧ tokA (toks s 0).1 (k + 1) ≤ s.size := by
  obtain ⟨L0, hL0, hk9⟩ := toks_last s _ 0 rfl (Nat.zero_le _) h0
  have hl0 : (toks s 0).1.length = L0.length + 1 := by rw [hL0]; simp
  have hx : (toks s 0).1[k]? = some (L0[k]'(by omega)) := by rw [hL0, List.getElem?_append_left (by omega), List.getElem?_eq_getElem (by omega)]
  obtain ⟨p, y, hr, hy, hpy, hys, _⟩ := toks_reads s h0 k _ hx (hk9 _ (List.getElem_mem _))
  have := hr.lt
  rw [(tok_of _ hx).2, (tok_of _ hy).2]
  omega
theorem any_of (s : ByteArray) (hs : Small s) (hm : s.size ≤ 65536) : ∃ er pl : Int, RdAny s er pl := by
  rcases read_three s hs hm with ⟨_, l, i, m, _, h⟩ | ⟨_, er, a, _, _, h⟩ | ⟨_, er, pl, _, h⟩
  · exact ⟨_, _, h.any⟩
  · exact ⟨_, _, h.any⟩
  · exact ⟨_, _, h.any⟩
theorem readboth_all (s t g : ByteArray) (hs1 : s.size ≤ 140737488351232) (ht1 : t.size ≤ 140737488351232) (hg1 : g.size ≤ 140737488351232) (w : World) : Calls Try.prog 7 #[.string s, .string t, .string g] w fun e w' => e = .returned (.bool true) ∧ New w w' := by
  by_cases hbig : (65535 : Int) < (s.size : Int) + t.size
  · exact both_big s t g w hs1 ht1 hbig
  · have hst : (s.size : Int) + t.size ≤ 65535 := by omega
    by_cases hgb : (100 : Int) < (g.size : Int)
    · exact both_gap s t g w hst hgb
    · have hg : (g.size : Int) ≤ 100 := by omega
      have hs : Small s := by unfold Small; omega
      have ht : Small t := by unfold Small; omega
      have hgs : Small g := by unfold Small; omega
      obtain ⟨u, hu⟩ : ∃ u, u = s ++ ⟨#[10]⟩ ++ t := ⟨_, rfl⟩
      have hul : u.data.toList = s.data.toList ++ [10] ++ t.data.toList := by rw [hu]; simp
      have husz := join_size s t u hul
      have huS : Small u := by unfold Small; omega
      have hu65 : u.size ≤ 65536 := by omega
      have hs65 : s.size ≤ 65536 := by omega
      have ht65 : t.size ≤ 65536 := by omega
      rcases read_three s hs hs65 with ⟨hs0, a, i, m, hra, h1⟩ | ⟨hs0, er, pa, hra, her, h1⟩ | ⟨hs0, er, pl, her, h1⟩
      · have hma := (read_got hs (tokErr_of hs65 hs0) hra).2.2.1
        have hE := toks_endL s (tokErr_of hs65 hs0)
        have hlen := toks_len s _ 0 rfl (Nat.zero_le _)
        have h6 : (sprB s g (toks s 0).1 ((toks s 0).1.length - 1)).size ≤ 65536 → (toks g 0).2.1 = 0 → (toks g 0).1.length = 1 → RdOk (sprB s g (toks s 0).1 ((toks s 0).1.length - 1)) a := fun hz hg0 hgl => by
          obtain ⟨j, q, hr⟩ := spr_read s g hs0 hs65 hg0 hgl hra
          have ht0 := (spr_toks s g hs0 hg0 hgl).1
          exact fun w => read_is (by unfold Small; omega) (tokErr_of hz ht0) hr w
        have h5 := tk_ok hs (tokErr_of hs65 hs0)
        have hn : (toks s 0).1.length - 1 + 1 = (toks s 0).1.length := by have := hE.pos; omega
        have hl : (toks s 0).1.length ≤ 1048577 := by omega
        have hcase : (∃ b, RdOk t b ∧ manyL b ≤ 10000 ∧ RdOk u (a ++ b)) ∨ (RdAny t 0 0 ∧ ∃ p3 : Int, RdAny u 62 p3) ∨ (∃ e2 p2 e3 p3 : Int, (e2 == 0) = false ∧ RdAny t e2 p2 ∧ RdAny u e3 p3) := by
          obtain ⟨e3, p3, h3⟩ := any_of u huS hu65
          rcases read_three t ht ht65 with ⟨ht0, b, j, q, hrb, h2⟩ | ⟨ht0, er, pa, hrb, her, h2⟩ | ⟨ht0, er, pl, her, h2⟩
          · have hut : (toks u 0).2.1 = 0 := by rw [(both_toks s t u hul hs0).1]; exact ht0
            rcases both_ok s t u hul hs0 hs65 (tokErr_of ht65 ht0) hra hrb with ⟨i', m', hr⟩ | ⟨p, hr⟩
            · exact .inl ⟨b, h2, (read_got ht (tokErr_of ht65 ht0) hrb).2.2.1, fun w => read_is huS (tokErr_of hu65 hut) hr w⟩
            · exact .inr (.inl ⟨h2.any, p, RdNo.any fun w => read_isnt huS (tokErr_of hu65 hut) hr w⟩)
          · exact .inr (.inr ⟨er, pa, e3, p3, by simp; omega, h2.any, h3⟩)
          · exact .inr (.inr ⟨er, pl, e3, p3, by simp; omega, h2.any, h3⟩)
        rw [hu] at hcase
        rcases tk_any g hgs with ⟨hge, h4⟩ | ⟨eg, pg, x4, x5, h4⟩
        · have hg0 := (tokErr_not hge).2
          by_cases hgl : (toks g 0).1.length = 1
          · rcases hcase with ⟨b, h2, hmb, h3⟩ | ⟨h2, p3, h3⟩ | ⟨e2, p2, e3, p3, x1, h2, h3⟩
            · exact both_x3a_g3 s t g w hst hg a b _ h1 h2 h3 rfl hma hmb _ h4 hgl h5 hn (ord_toks s hs0) hl (fun hz => h6 hz hg0 hgl) hma
            · exact both_x3b_g3 s t g w hst hg a p3 h1 h2 h3 _ h4 hgl h5 hn (ord_toks s hs0) hl (fun hz => h6 hz hg0 hgl) hma
            · exact both_x2_g3 s t g w hst hg a e2 p2 e3 p3 h1 h2 h3 x1 _ h4 hgl h5 hn (ord_toks s hs0) hl (fun hz => h6 hz hg0 hgl) hma
          · have x4 : (((toks g 0).1.length : Int) != 1) = true := by simp; omega
            rcases hcase with ⟨b, h2, hmb, h3⟩ | ⟨h2, p3, h3⟩ | ⟨e2, p2, e3, p3, x1, h2, h3⟩
            · exact both_x3a_g2 s t g w hst hg a b _ h1 h2 h3 rfl hma hmb h4 x4
            · exact both_x3b_g2 s t g w hst hg a p3 h1 h2 h3 h4 x4
            · exact both_x2_g2 s t g w hst hg a e2 p2 e3 p3 h1 h2 h3 x1 h4 x4
        · rcases hcase with ⟨b, h2, hmb, h3⟩ | ⟨h2, p3, h3⟩ | ⟨e2, p2, e3, p3, x1, h2, h3⟩
          · exact both_x3a_g1 s t g w hst hg a b _ h1 h2 h3 rfl hma hmb eg pg h4 x4 x5
          · exact both_x3b_g1 s t g w hst hg a p3 h1 h2 h3 eg pg h4 x4 x5
          · exact both_x2_g1 s t g w hst hg a e2 p2 e3 p3 h1 h2 h3 x1 eg pg h4 x4 x5
      · have h4 : ∃ eg pg : Int, TkAny g eg pg := by
          rcases tk_any g hgs with ⟨_, h⟩ | ⟨eg, pg, _, _, h⟩
          · exact ⟨_, _, h.any⟩
          · exact ⟨eg, pg, h⟩
        obtain ⟨eg, pg, h4⟩ := h4
        obtain ⟨e2, p2, h2⟩ := any_of t ht ht65
        obtain ⟨e3, p3, h3⟩ := any_of u huS hu65
        have h1' := h1.any
        by_cases h60 : er = 60
        · subst h60
          by_cases hlt : (pa : Int) < s.size
          · by_cases ht0 : (toks t 0).2.1 = 0
            · have hut : (toks u 0).2.1 = 0 := by rw [(both_toks s t u hul hs0).1]; exact ht0
              have hr := both_bad s t u hul hs0 hs65 (toks_endL t (tokErr_of ht65 ht0)).pos hra (by omega)
              have h3' : RdAny u 60 pa := RdNo.any fun w => read_isnt huS (tokErr_of hu65 hut) hr w
              rw [hu] at h3'
              exact both_c s t g w hst hg pa e2 p2 h1' h2 h3' hlt pg eg h4
            · have hut : (toks u 0).2.1 ≠ 0 := by rw [(both_toks s t u hul hs0).1]; exact ht0
              rcases read_three u huS hu65 with ⟨h, _⟩ | ⟨h, _⟩ | ⟨_, e4, p4, he4, h3'⟩
              · exact absurd h hut
              · exact absurd h hut
              · rcases tk_any t ht with ⟨h, _⟩ | ⟨et, pt, y1, _, h5⟩
                · exact absurd (tokErr_not h).2 ht0
                · have h3'' := h3'.any
                  rw [hu] at h3''
                  exact both_d s t g w hst hg pa e2 p2 e4 p4 h1' h2 h3'' hlt (by simp; omega) et pt h5 y1 pg eg h4
          · rw [hu] at h3
            exact both_b s t g w hst hg pa e2 p2 e3 p3 h1' h2 h3 hlt pg eg h4
        · rw [hu] at h3
          exact both_a s t g w hst hg er pa e2 p2 e3 p3 h1' h2 h3 (by simp; omega) (by simp; omega) (by simpa using h60) pg eg h4
      · have h4 : ∃ eg pg : Int, TkAny g eg pg := by
          rcases tk_any g hgs with ⟨_, h⟩ | ⟨eg, pg, _, _, h⟩
          · exact ⟨_, _, h.any⟩
          · exact ⟨eg, pg, h⟩
        obtain ⟨eg, pg, h4⟩ := h4
        obtain ⟨e2, p2, h2⟩ := any_of t ht ht65
        obtain ⟨e3, p3, h3⟩ := any_of u huS hu65
        rw [hu] at h3
        exact both_a s t g w hst hg er pl e2 p2 e3 p3 h1.any h2 h3 (by simp; omega) (by simp; omega) (by simp; omega) pg eg h4
end Go.Proofs.Ytnnjhafjcdjobaa
