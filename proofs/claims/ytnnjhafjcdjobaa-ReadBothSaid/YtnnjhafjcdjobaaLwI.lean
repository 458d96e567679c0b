/- Read: the law ReadBoth, walked: where it ends early. -/
import Derived.Test.YtnnjhafjcdjobaaLwH
namespace Go.Proofs.Ytnnjhafjcdjobaa
open Go.RowKit
set_option linter.unusedVariables false
set_option linter.unusedSimpArgs false

set_option maxHeartbeats 8000000 in
set_option maxRecDepth 20000 in
theorem both_big (s t g : ByteArray) (w : World) (hs : s.size ≤ 140737488351232) (ht : t.size ≤ 140737488351232) (h : (65535 : Int) < (s.size : Int) + t.size) : Calls Try.prog 7 #[.string s, .string t, .string g] w fun e w' => e = .returned (.bool true) ∧ New w w' := by
  have b1 : (s.size : Int) ≤ 140737488351232 := by omega
  have b2 : (t.size : Int) ≤ 140737488351232 := by omega
  have q2 : decide ((65535 : Int) < (s.size : Int) + t.size) = true := decide_eq_true h
  clear hs ht
  go_enter Try.func7, Try.ntmps7
  go_wp2_with fail
  refine (works_calls _).mono ?_
  rintro e w1 ⟨rfl, hu1⟩
  have HU1 := Lib.hid hu1
  clear hu1
  go_wp2_with fail
  go_ret
  exact ⟨rfl, HU1.out⟩
set_option maxHeartbeats 8000000 in
set_option maxRecDepth 20000 in
theorem both_gap (s t g : ByteArray) (w : World) (hst : (s.size : Int) + t.size ≤ 65535) (h : (100 : Int) < (g.size : Int)) : Calls Try.prog 7 #[.string s, .string t, .string g] w fun e w' => e = .returned (.bool true) ∧ New w w' := by
  have q1 : ¬ (65535 : Int) < (s.size : Int) + t.size := by omega
  have q2 : decide ((65535 : Int) < (s.size : Int) + t.size) = false := decide_eq_false q1
  have q4 : decide ((100 : Int) < (g.size : Int)) = true := decide_eq_true h
  go_enter Try.func7, Try.ntmps7
  go_wp2_with fail
  refine (works_calls _).mono ?_
  rintro e w1 ⟨rfl, hu1⟩
  have HU1 := Lib.hid hu1
  clear hu1
  go_wp2_with fail
  go_ret
  exact ⟨rfl, HU1.out⟩
set_option maxHeartbeats 8000000 in
set_option maxRecDepth 20000 in
theorem both_a (s t g : ByteArray) (w : World) (hst : (s.size : Int) + t.size ≤ 65535) (hg : (g.size : Int) ≤ 100) (e1 p1 e2 p2 e3 p3 : Int) (h1 : RdAny s e1 p1) (h2 : RdAny t e2 p2) (h3 : RdAny (s ++ ⟨#[10]⟩ ++ t) e3 p3) (x1 : (e1 == 0) = false) (x2 : (e1 != 0) = true) (x3 : (e1 == 60) = false) (pg eg : Int) (h4 : TkAny g eg pg) : Calls Try.prog 7 #[.string s, .string t, .string g] w fun e w' => e = .returned (.bool true) ∧ New w w' := by
  have H1 := Lib.hid h1
  have H2 := Lib.hid h2
  have H3 := Lib.hid h3
  have H4 := Lib.hid h4
  unfold RdAny at H1
  unfold RdAny at H2
  unfold RdAny at H3
  unfold TkAny at H4
  clear h1 h2 h3 h4
  have q1 : ¬ (65535 : Int) < (s.size : Int) + t.size := by omega
  have q2 : decide ((65535 : Int) < (s.size : Int) + t.size) = false := decide_eq_false q1
  have q3 : ¬ (100 : Int) < g.size := by omega
  have q4 : decide ((100 : Int) < (g.size : Int)) = false := decide_eq_false q3
  go_enter Try.func7, Try.ntmps7
  go_wp2_with fail
  refine (works_calls _).mono ?_
  rintro e w1 ⟨rfl, hu1⟩
  have HU1 := Lib.hid hu1
  clear hu1
  go_wp2_with fail
  refine (H1.out _).mono ?_
  rintro e w2 ⟨A2, n2, c2, rfl, hu2⟩
  have HU2 := Lib.hid (HU1.out.trans hu2)
  clear hu2
  go_wp2_with fail
  refine (H2.out _).mono ?_
  rintro e w3 ⟨A3, n3, c3, rfl, hu3⟩
  have HU3 := Lib.hid (HU2.out.trans hu3)
  clear hu3
  go_wp2_with fail
  refine (H3.out _).mono ?_
  rintro e w4 ⟨A4, n4, c4, rfl, hu4⟩
  have HU4 := Lib.hid (HU3.out.trans hu4)
  clear hu4
  go_wp2_with fail
  refine (H1.out _).mono ?_
  rintro e w5 ⟨A5, n5, c5, rfl, hu5⟩
  have HU5 := Lib.hid (HU4.out.trans hu5)
  clear hu5
  go_wp2_with fail
  refine (H4.out _).mono ?_
  rintro e w6 ⟨A6, n6, c6, rfl, hu6⟩
  have HU6 := Lib.hid (HU5.out.trans hu6)
  clear hu6
  go_wp2_with fail
  go_ret
  exact ⟨rfl, HU6.out⟩
set_option maxHeartbeats 8000000 in
set_option maxRecDepth 20000 in
theorem both_b (s t g : ByteArray) (w : World) (hst : (s.size : Int) + t.size ≤ 65535) (hg : (g.size : Int) ≤ 100) (p1 e2 p2 e3 p3 : Int) (h1 : RdAny s 60 p1) (h2 : RdAny t e2 p2) (h3 : RdAny (s ++ ⟨#[10]⟩ ++ t) e3 p3) (x1 : ¬ p1 < s.size) (pg eg : Int) (h4 : TkAny g eg pg) : Calls Try.prog 7 #[.string s, .string t, .string g] w fun e w' => e = .returned (.bool true) ∧ New w w' := by
  have H1 := Lib.hid h1
  have H2 := Lib.hid h2
  have H3 := Lib.hid h3
  have H4 := Lib.hid h4
  unfold RdAny at H1
  unfold RdAny at H2
  unfold RdAny at H3
  unfold TkAny at H4
  have x2 : decide (p1 < (s.size : Int)) = false := decide_eq_false x1
  clear h1 h2 h3 h4
  have q1 : ¬ (65535 : Int) < (s.size : Int) + t.size := by omega
  have q2 : decide ((65535 : Int) < (s.size : Int) + t.size) = false := decide_eq_false q1
  have q3 : ¬ (100 : Int) < g.size := by omega
  have q4 : decide ((100 : Int) < (g.size : Int)) = false := decide_eq_false q3
  go_enter Try.func7, Try.ntmps7
  go_wp2_with fail
  refine (works_calls _).mono ?_
  rintro e w1 ⟨rfl, hu1⟩
  have HU1 := Lib.hid hu1
  clear hu1
  go_wp2_with fail
  refine (H1.out _).mono ?_
  rintro e w2 ⟨A2, n2, c2, rfl, hu2⟩
  have HU2 := Lib.hid (HU1.out.trans hu2)
  clear hu2
  go_wp2_with fail
  refine (H2.out _).mono ?_
  rintro e w3 ⟨A3, n3, c3, rfl, hu3⟩
  have HU3 := Lib.hid (HU2.out.trans hu3)
  clear hu3
  go_wp2_with fail
  refine (H3.out _).mono ?_
  rintro e w4 ⟨A4, n4, c4, rfl, hu4⟩
  have HU4 := Lib.hid (HU3.out.trans hu4)
  clear hu4
  go_wp2_with fail
  refine (H1.out _).mono ?_
  rintro e w5 ⟨A5, n5, c5, rfl, hu5⟩
  have HU5 := Lib.hid (HU4.out.trans hu5)
  clear hu5
  go_wp2_with fail
  refine (H4.out _).mono ?_
  rintro e w6 ⟨A6, n6, c6, rfl, hu6⟩
  have HU6 := Lib.hid (HU5.out.trans hu6)
  clear hu6
  go_wp2_with fail
  go_ret
  exact ⟨rfl, HU6.out⟩
set_option maxHeartbeats 8000000 in
set_option maxRecDepth 20000 in
theorem both_c (s t g : ByteArray) (w : World) (hst : (s.size : Int) + t.size ≤ 65535) (hg : (g.size : Int) ≤ 100) (p1 e2 p2 : Int) (h1 : RdAny s 60 p1) (h2 : RdAny t e2 p2) (h3 : RdAny (s ++ ⟨#[10]⟩ ++ t) 60 p1) (x1 : p1 < s.size) (pg eg : Int) (h4 : TkAny g eg pg) : Calls Try.prog 7 #[.string s, .string t, .string g] w fun e w' => e = .returned (.bool true) ∧ New w w' := by
  have H1 := Lib.hid h1
  have H2 := Lib.hid h2
  have H3 := Lib.hid h3
  have H4 := Lib.hid h4
  unfold RdAny at H1
  unfold RdAny at H2
  unfold RdAny at H3
  unfold TkAny at H4
  have x2 : decide (p1 < (s.size : Int)) = true := decide_eq_true x1
  have x3 : (p1 != p1) = false := by simp
  clear h1 h2 h3 h4
  have q1 : ¬ (65535 : Int) < (s.size : Int) + t.size := by omega
  have q2 : decide ((65535 : Int) < (s.size : Int) + t.size) = false := decide_eq_false q1
  have q3 : ¬ (100 : Int) < g.size := by omega
  have q4 : decide ((100 : Int) < (g.size : Int)) = false := decide_eq_false q3
  go_enter Try.func7, Try.ntmps7
  go_wp2_with fail
  refine (works_calls _).mono ?_
  rintro e w1 ⟨rfl, hu1⟩
  have HU1 := Lib.hid hu1
  clear hu1
  go_wp2_with fail
  refine (H1.out _).mono ?_
  rintro e w2 ⟨A2, n2, c2, rfl, hu2⟩
  have HU2 := Lib.hid (HU1.out.trans hu2)
  clear hu2
  go_wp2_with fail
  refine (H2.out _).mono ?_
  rintro e w3 ⟨A3, n3, c3, rfl, hu3⟩
  have HU3 := Lib.hid (HU2.out.trans hu3)
  clear hu3
  go_wp2_with fail
  refine (H3.out _).mono ?_
  rintro e w4 ⟨A4, n4, c4, rfl, hu4⟩
  have HU4 := Lib.hid (HU3.out.trans hu4)
  clear hu4
  go_wp2_with fail
  refine (H1.out _).mono ?_
  rintro e w5 ⟨A5, n5, c5, rfl, hu5⟩
  have HU5 := Lib.hid (HU4.out.trans hu5)
  clear hu5
  go_wp2_with fail
  refine (H4.out _).mono ?_
  rintro e w6 ⟨A6, n6, c6, rfl, hu6⟩
  have HU6 := Lib.hid (HU5.out.trans hu6)
  clear hu6
  go_wp2_with fail
  go_ret
  exact ⟨rfl, HU6.out⟩
set_option maxHeartbeats 8000000 in
set_option maxRecDepth 20000 in
theorem both_d (s t g : ByteArray) (w : World) (hst : (s.size : Int) + t.size ≤ 65535) (hg : (g.size : Int) ≤ 100) (p1 e2 p2 e3 p3 : Int) (h1 : RdAny s 60 p1) (h2 : RdAny t e2 p2) (h3 : RdAny (s ++ ⟨#[10]⟩ ++ t) e3 p3) (x1 : p1 < s.size) (x3 : (e3 != 60) = true) (et pt : Int) (h5 : TkAny t et pt) (x4 : (et == 0) = false) (pg eg : Int) (h4 : TkAny g eg pg) : Calls Try.prog 7 #[.string s, .string t, .string g] w fun e w' => e = .returned (.bool true) ∧ New w w' := by
  have H1 := Lib.hid h1
  have H2 := Lib.hid h2
  have H3 := Lib.hid h3
  have H4 := Lib.hid h4
  unfold RdAny at H1
  unfold RdAny at H2
  unfold RdAny at H3
  unfold TkAny at H4
  have H5 := Lib.hid h5
  unfold TkAny at H5
  have x2 : decide (p1 < (s.size : Int)) = true := decide_eq_true x1
  clear h1 h2 h3 h4 h5
  have q1 : ¬ (65535 : Int) < (s.size : Int) + t.size := by omega
  have q2 : decide ((65535 : Int) < (s.size : Int) + t.size) = false := decide_eq_false q1
  have q3 : ¬ (100 : Int) < g.size := by omega
  have q4 : decide ((100 : Int) < (g.size : Int)) = false := decide_eq_false q3
  go_enter Try.func7, Try.ntmps7
  go_wp2_with fail
  refine (works_calls _).mono ?_
  rintro e w1 ⟨rfl, hu1⟩
  have HU1 := Lib.hid hu1
  clear hu1
  go_wp2_with fail
  refine (H1.out _).mono ?_
  rintro e w2 ⟨A2, n2, c2, rfl, hu2⟩
  have HU2 := Lib.hid (HU1.out.trans hu2)
  clear hu2
  go_wp2_with fail
  refine (H2.out _).mono ?_
  rintro e w3 ⟨A3, n3, c3, rfl, hu3⟩
  have HU3 := Lib.hid (HU2.out.trans hu3)
  clear hu3
  go_wp2_with fail
  refine (H3.out _).mono ?_
  rintro e w4 ⟨A4, n4, c4, rfl, hu4⟩
  have HU4 := Lib.hid (HU3.out.trans hu4)
  clear hu4
  go_wp2_with fail
  refine (H1.out _).mono ?_
  rintro e w5 ⟨A5, n5, c5, rfl, hu5⟩
  have HU5 := Lib.hid (HU4.out.trans hu5)
  clear hu5
  go_wp2_with fail
  refine (H5.out _).mono ?_
  rintro e w6 ⟨A6, n6, c6, rfl, hu6⟩
  have HU6 := Lib.hid (HU5.out.trans hu6)
  clear hu6
  go_wp2_with fail
  refine (H4.out _).mono ?_
  rintro e w7 ⟨A7, n7, c7, rfl, hu7⟩
  have HU7 := Lib.hid (HU6.out.trans hu7)
  clear hu7
  go_wp2_with fail
  go_ret
  exact ⟨rfl, HU7.out⟩
end Go.Proofs.Ytnnjhafjcdjobaa
