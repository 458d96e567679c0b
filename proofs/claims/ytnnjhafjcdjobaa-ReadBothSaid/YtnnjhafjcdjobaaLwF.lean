/- Read: the law ReadTails, walked: where all is written. -/
import Derived.Test.YtnnjhafjcdjobaaLwE
namespace Go.Proofs.Ytnnjhafjcdjobaa
open Go.RowKit
set_option linter.unusedVariables false
set_option linter.unusedSimpArgs false

def s1T (a b : ByteArray) : ByteArray := ⟨#[40]⟩ ++ a ++ ⟨#[32, 46, 32, 40]⟩ ++ b ++ ⟨#[41, 41]⟩
def s2T (a b : ByteArray) : ByteArray := ⟨#[40]⟩ ++ a ++ ⟨#[10]⟩ ++ b ++ ⟨#[41]⟩
def s3T (a : ByteArray) : ByteArray := ⟨#[39]⟩ ++ a
/-- A text is read as this, or there is too much, too deep. -/
def RdOk (s : ByteArray) (v : List Dat) : Prop := ∀ w, Calls Try.prog 16 #[.string s] w fun e w' => ∃ A c bs, e = .returned (.tuple #[.slice A v.length c, .int .i64 0, .int .i64 0]) ∧ New w w' ∧ Own w' w.heap.size (.slice A v.length c) v bs ∧ bs.Nodup
def RdNo (s : ByteArray) (er pl : Int) : Prop := ∀ w, Calls Try.prog 16 #[.string s] w fun e w' => e = .returned (.tuple #[.slice none 0 0, .int .i64 er, .int .i64 pl]) ∧ New w w'
theorem rd1 {l m : List Dat} (he : writeE l = 0) (hf : writeE m = 0) (hl : mayL l = true) (hm : mayL m = true) (hne : l ≠ []) (hz : (textW l).size + (textW m).size ≤ 60000) :
    RdOk (s1T (textW l) (textW m)) [lst (l ++ m) false] ∨ ∃ er pl : Int, (er = 61 ∨ er = 62) ∧ RdNo (s1T (textW l) (textW m)) er pl := by
  obtain ⟨h1, h2⟩ := toks_tails1 l m hl hm (T := s1T (textW l) (textW m)) (by simp [s1T])
  have hs : (s1T (textW l) (textW m)).size ≤ 65536 := by
    have e1 : (⟨#[40]⟩ : ByteArray).size = 1 := rfl
    have e2 : (⟨#[32, 46, 32, 40]⟩ : ByteArray).size = 4 := rfl
    have e3 : (⟨#[41, 41]⟩ : ByteArray).size = 2 := rfl
    simp only [s1T, ByteArray.size_append]; omega
  rcases outR_calls hs h1 (parse_tails1 l m hl hm _ h2 hne) with h | ⟨er, pl, h3, h4⟩
  · exact .inl h
  · exact .inr ⟨er, pl, h3, h4⟩
theorem rd2 {l m : List Dat} (he : writeE l = 0) (hf : writeE m = 0) (hl : mayL l = true) (hm : mayL m = true) (hz : (textW l).size + (textW m).size ≤ 60000) :
    RdOk (s2T (textW l) (textW m)) [lst (l ++ m) false] ∨ ∃ er pl : Int, (er = 61 ∨ er = 62) ∧ RdNo (s2T (textW l) (textW m)) er pl := by
  obtain ⟨h1, h2⟩ := toks_tails2 l m hl hm (T := s2T (textW l) (textW m)) (by simp [s2T])
  have hs : (s2T (textW l) (textW m)).size ≤ 65536 := by
    have e1 : (⟨#[40]⟩ : ByteArray).size = 1 := rfl
    have e2 : (⟨#[10]⟩ : ByteArray).size = 1 := rfl
    have e3 : (⟨#[41]⟩ : ByteArray).size = 1 := rfl
    simp only [s2T, ByteArray.size_append]; omega
  rcases outR_calls hs h1 (parse_tails2 l m hl hm _ h2) with h | ⟨er, pl, h3, h4⟩
  · exact .inl h
  · exact .inr ⟨er, pl, h3, h4⟩
theorem rd3 {x : Dat} {l : List Dat} (he : writeE (x :: l) = 0) (hl : mayL (x :: l) = true) (hz : (textW (x :: l)).size ≤ 60000) :
    RdOk (s3T (textW (x :: l))) (lst [sym quoteT, x] false :: l) ∨ ∃ er pl : Int, (er = 61 ∨ er = 62) ∧ RdNo (s3T (textW (x :: l))) er pl := by
  obtain ⟨h1, h2⟩ := quoted_back (x := x) (l := l) hl (T := s3T (textW (x :: l))) (by simp [s3T])
  have hs : (s3T (textW (x :: l))).size ≤ 65536 := by
    have e1 : (⟨#[39]⟩ : ByteArray).size = 1 := rfl
    simp only [s3T, ByteArray.size_append]; omega
  rcases outR_calls hs h1 h2 with h | ⟨er, pl, h3, h4⟩
  · exact .inl h
  · exact .inr ⟨er, pl, h3, h4⟩
theorem may_of {l : List Dat} (h : writeE l = 0) : mayL l = true ∧ manyL l ≤ 10000 := by
  unfold writeE at h
  by_cases h1 : mayL l = false
  · rw [if_pos h1] at h; cases h
  · rw [if_neg h1] at h
    by_cases h2 : 100 < deepL l
    · rw [if_pos h2] at h; cases h
    · rw [if_neg h2] at h
      by_cases h3 : 10000 < manyL l
      · rw [if_pos h3] at h; cases h
      · exact ⟨by simpa using h1, by omega⟩
set_option maxHeartbeats 8000000 in
set_option maxRecDepth 20000 in
theorem tails_ok_ok_61 (v v2 : Value) (x : Dat) (l m : List Dat) (w : World) (hv : SeesB w v (x :: l)) (hv2 : SeesB w v2 m) (h : ¬ leftL (x :: l) 200000 0 < 0) (hh2 : ¬ leftL m 200000 0 < 0) (he : writeE (x :: l) = 0) (hf : writeE m = 0) (hlong : (textW (x :: l)).size + (textW m).size ≤ 60000) (h1 : RdOk (s1T (textW (x :: l)) (textW m)) [lst (x :: l ++ m) false]) (h2 : RdOk (s2T (textW (x :: l)) (textW m)) [lst (x :: l ++ m) false]) (pl3 : Int) (h3 : RdNo (s3T (textW (x :: l))) 61 pl3) : Calls Try.prog 8 #[v, v2] w fun e w' => e = .returned (.bool true) ∧ New w w' := by
  obtain ⟨m1, m2, m3, m4⟩ := much_not h
  obtain ⟨n1, n2, n3, n4⟩ := much_not hh2
  obtain ⟨es, hes, hsn, -⟩ := hv.inv
  obtain ⟨A, c, hvv⟩ := hsn.form
  have hll : es.length = l.length + 1 := by have := congrArg List.length hes; simp at this; omega
  rw [hll] at hvv
  subst hvv
  clear hes hsn hll
  have HMU := Lib.hid (fun w' (hn : New w w') => much_calls (x :: l) _ w' (hv.new hn))
  have HMU2 := Lib.hid (fun w' (hn : New w w') => much_calls m v2 w' (hv2.new hn))
  have hd : decide (leftL (x :: l) 200000 0 < 0) = false := decide_eq_false h
  have hd2 : decide (leftL m 200000 0 < 0) = false := decide_eq_false hh2
  rw [hd] at HMU
  rw [hd2] at HMU2
  have hle : (((l.length + 1 : Nat) : Int) == 0) = false := by simp; omega
  have hlp : (0 : Int) < ((l.length + 1 : Nat) : Int) := by omega
  have HV := Lib.hid (fun w' (hn : New w w') => (hv.sees (by omega)).new hn)
  have HV2 := Lib.hid (fun w' (hn : New w w') => (hv2.sees (by omega)).new hn)
  have HW1 := Lib.hid (fun w' (hn : New w w') => write_all (HV.out w' hn) m2 (by omega) (by omega))
  have HW2 := Lib.hid (fun w' (hn : New w w') => write_all (HV2.out w' hn) n2 (by omega) (by omega))
  rw [writeT, if_pos he, he] at HW1
  rw [writeT, if_pos hf, hf] at HW2
  have hml := (may_of he).2
  have hmm := (may_of hf).2
  have HMA := Lib.hid (show manyL [lst (x :: l ++ m) false] ≤ 2000000 by rw [manyL, manyL, lst, Dat.many, manyL_append]; omega)
  have HMB := Lib.hid (show manyL (lst [sym quoteT, x] false :: l) ≤ 2000000 by rw [manyL] at hml ⊢; rw [lst, Dat.many, manyL, manyL, manyL, sym, Dat.many, manyL]; omega)
  generalize textW (x :: l) = T1 at *
  generalize textW m = T2 at *
  have hq1 : ((T1.size : Int) + T2.size) ≤ 60000 := by omega
  have hq2 : decide (60000 < T1.size + T2.size) = false := decide_eq_false (by omega)
  have hq3 : ¬ (60000 : Int) < (T1.size : Int) + T2.size := by omega
  have H1 := Lib.hid h1
  have H2 := Lib.hid h2
  have H3 := Lib.hid h3
  unfold RdOk s1T at H1
  unfold RdOk s2T at H2
  unfold RdNo s3T at H3
  clear h hh2 h1 h2 h3 hd hd2 hv hv2 m1 m2 m3 m4 n1 n2 n3 n4 he hf hlong hml hmm
  go_enter Try.func8, Try.ntmps8
  go_wp2_with fail
  refine (works_calls _).mono ?_
  rintro e w1 ⟨rfl, hu1⟩
  have HU1 := Lib.hid hu1
  clear hu1
  go_wp2_with fail
  refine (HMU.out _ HU1.out).mono ?_
  rintro e w2 ⟨rfl, hu2⟩
  have HU2 := Lib.hid (HU1.out.trans hu2)
  clear hu2
  go_wp2_with fail
  refine (HMU2.out _ HU2.out).mono ?_
  rintro e w3 ⟨rfl, hu3⟩
  have HU3 := Lib.hid (HU2.out.trans hu3)
  clear hu3
  go_wp2_with fail
  refine (HW1.out _ HU3.out).mono ?_
  rintro e w4 ⟨rfl, hu4⟩
  have HU4 := Lib.hid (HU3.out.trans hu4)
  clear hu4
  go_wp2_with fail
  refine (HW2.out _ HU4.out).mono ?_
  rintro e w5 ⟨rfl, hu5⟩
  have HU5 := Lib.hid (HU4.out.trans hu5)
  clear hu5
  go_wp2_with fail
  refine (H1.out _).mono ?_
  rintro e w6 ⟨A6, c6, bs6, rfl, hu6, ho6, -⟩
  have HU6 := Lib.hid (HU5.out.trans hu6)
  have HO6 := Lib.hid (own_sees ho6 HMA.out)
  clear hu6 ho6
  go_wp2_with fail
  refine (H2.out _).mono ?_
  rintro e w7 ⟨A7, c7, bs7, rfl, hu7, ho7, -⟩
  have HU7 := Lib.hid (HU6.out.trans hu7)
  have HO7 := Lib.hid (own_sees ho7 HMA.out)
  have HP7 := Lib.hid (HO6.out.new hu7)
  clear hu7 ho7 HO6
  go_wp2_with fail
  refine (sdata_calls _ _ _ _ _ HP7.out HO7.out).mono ?_
  rintro e w8 ⟨rfl, hu8⟩
  have HU8 := Lib.hid (HU7.out.trans hu8)
  clear hu8
  rw [sameL_true rfl]
  go_wp2_with fail
  refine (H3.out _).mono ?_
  rintro e w9 ⟨rfl, hu9⟩
  have HU9 := Lib.hid (HU8.out.trans hu9)
  clear hu9
  go_wp2_with fail
  go_ret
  exact ⟨rfl, HU9.out⟩
set_option maxHeartbeats 8000000 in
set_option maxRecDepth 20000 in
theorem tails_ok_ok_62 (v v2 : Value) (x : Dat) (l m : List Dat) (w : World) (hv : SeesB w v (x :: l)) (hv2 : SeesB w v2 m) (h : ¬ leftL (x :: l) 200000 0 < 0) (hh2 : ¬ leftL m 200000 0 < 0) (he : writeE (x :: l) = 0) (hf : writeE m = 0) (hlong : (textW (x :: l)).size + (textW m).size ≤ 60000) (h1 : RdOk (s1T (textW (x :: l)) (textW m)) [lst (x :: l ++ m) false]) (h2 : RdOk (s2T (textW (x :: l)) (textW m)) [lst (x :: l ++ m) false]) (pl3 : Int) (h3 : RdNo (s3T (textW (x :: l))) 62 pl3) : Calls Try.prog 8 #[v, v2] w fun e w' => e = .returned (.bool true) ∧ New w w' := by
  obtain ⟨m1, m2, m3, m4⟩ := much_not h
  obtain ⟨n1, n2, n3, n4⟩ := much_not hh2
  obtain ⟨es, hes, hsn, -⟩ := hv.inv
  obtain ⟨A, c, hvv⟩ := hsn.form
  have hll : es.length = l.length + 1 := by have := congrArg List.length hes; simp at this; omega
  rw [hll] at hvv
  subst hvv
  clear hes hsn hll
  have HMU := Lib.hid (fun w' (hn : New w w') => much_calls (x :: l) _ w' (hv.new hn))
  have HMU2 := Lib.hid (fun w' (hn : New w w') => much_calls m v2 w' (hv2.new hn))
  have hd : decide (leftL (x :: l) 200000 0 < 0) = false := decide_eq_false h
  have hd2 : decide (leftL m 200000 0 < 0) = false := decide_eq_false hh2
  rw [hd] at HMU
  rw [hd2] at HMU2
  have hle : (((l.length + 1 : Nat) : Int) == 0) = false := by simp; omega
  have hlp : (0 : Int) < ((l.length + 1 : Nat) : Int) := by omega
  have HV := Lib.hid (fun w' (hn : New w w') => (hv.sees (by omega)).new hn)
  have HV2 := Lib.hid (fun w' (hn : New w w') => (hv2.sees (by omega)).new hn)
  have HW1 := Lib.hid (fun w' (hn : New w w') => write_all (HV.out w' hn) m2 (by omega) (by omega))
  have HW2 := Lib.hid (fun w' (hn : New w w') => write_all (HV2.out w' hn) n2 (by omega) (by omega))
  rw [writeT, if_pos he, he] at HW1
  rw [writeT, if_pos hf, hf] at HW2
  have hml := (may_of he).2
  have hmm := (may_of hf).2
  have HMA := Lib.hid (show manyL [lst (x :: l ++ m) false] ≤ 2000000 by rw [manyL, manyL, lst, Dat.many, manyL_append]; omega)
  have HMB := Lib.hid (show manyL (lst [sym quoteT, x] false :: l) ≤ 2000000 by rw [manyL] at hml ⊢; rw [lst, Dat.many, manyL, manyL, manyL, sym, Dat.many, manyL]; omega)
  generalize textW (x :: l) = T1 at *
  generalize textW m = T2 at *
  have hq1 : ((T1.size : Int) + T2.size) ≤ 60000 := by omega
  have hq2 : decide (60000 < T1.size + T2.size) = false := decide_eq_false (by omega)
  have hq3 : ¬ (60000 : Int) < (T1.size : Int) + T2.size := by omega
  have H1 := Lib.hid h1
  have H2 := Lib.hid h2
  have H3 := Lib.hid h3
  unfold RdOk s1T at H1
  unfold RdOk s2T at H2
  unfold RdNo s3T at H3
  clear h hh2 h1 h2 h3 hd hd2 hv hv2 m1 m2 m3 m4 n1 n2 n3 n4 he hf hlong hml hmm
  go_enter Try.func8, Try.ntmps8
  go_wp2_with fail
  refine (works_calls _).mono ?_
  rintro e w1 ⟨rfl, hu1⟩
  have HU1 := Lib.hid hu1
  clear hu1
  go_wp2_with fail
  refine (HMU.out _ HU1.out).mono ?_
  rintro e w2 ⟨rfl, hu2⟩
  have HU2 := Lib.hid (HU1.out.trans hu2)
  clear hu2
  go_wp2_with fail
  refine (HMU2.out _ HU2.out).mono ?_
  rintro e w3 ⟨rfl, hu3⟩
  have HU3 := Lib.hid (HU2.out.trans hu3)
  clear hu3
  go_wp2_with fail
  refine (HW1.out _ HU3.out).mono ?_
  rintro e w4 ⟨rfl, hu4⟩
  have HU4 := Lib.hid (HU3.out.trans hu4)
  clear hu4
  go_wp2_with fail
  refine (HW2.out _ HU4.out).mono ?_
  rintro e w5 ⟨rfl, hu5⟩
  have HU5 := Lib.hid (HU4.out.trans hu5)
  clear hu5
  go_wp2_with fail
  refine (H1.out _).mono ?_
  rintro e w6 ⟨A6, c6, bs6, rfl, hu6, ho6, -⟩
  have HU6 := Lib.hid (HU5.out.trans hu6)
  have HO6 := Lib.hid (own_sees ho6 HMA.out)
  clear hu6 ho6
  go_wp2_with fail
  refine (H2.out _).mono ?_
  rintro e w7 ⟨A7, c7, bs7, rfl, hu7, ho7, -⟩
  have HU7 := Lib.hid (HU6.out.trans hu7)
  have HO7 := Lib.hid (own_sees ho7 HMA.out)
  have HP7 := Lib.hid (HO6.out.new hu7)
  clear hu7 ho7 HO6
  go_wp2_with fail
  refine (sdata_calls _ _ _ _ _ HP7.out HO7.out).mono ?_
  rintro e w8 ⟨rfl, hu8⟩
  have HU8 := Lib.hid (HU7.out.trans hu8)
  clear hu8
  rw [sameL_true rfl]
  go_wp2_with fail
  refine (H3.out _).mono ?_
  rintro e w9 ⟨rfl, hu9⟩
  have HU9 := Lib.hid (HU8.out.trans hu9)
  clear hu9
  go_wp2_with fail
  go_ret
  exact ⟨rfl, HU9.out⟩
set_option maxHeartbeats 8000000 in
set_option maxRecDepth 20000 in
theorem tails_ok_no_61 (v v2 : Value) (x : Dat) (l m : List Dat) (w : World) (hv : SeesB w v (x :: l)) (hv2 : SeesB w v2 m) (h : ¬ leftL (x :: l) 200000 0 < 0) (hh2 : ¬ leftL m 200000 0 < 0) (he : writeE (x :: l) = 0) (hf : writeE m = 0) (hlong : (textW (x :: l)).size + (textW m).size ≤ 60000) (h1 : RdOk (s1T (textW (x :: l)) (textW m)) [lst (x :: l ++ m) false]) (er2 pl2 : Int) (hr2 : (er2 == 0) = false) (h2 : RdNo (s2T (textW (x :: l)) (textW m)) er2 pl2) (pl3 : Int) (h3 : RdNo (s3T (textW (x :: l))) 61 pl3) : Calls Try.prog 8 #[v, v2] w fun e w' => e = .returned (.bool true) ∧ New w w' := by
  obtain ⟨m1, m2, m3, m4⟩ := much_not h
  obtain ⟨n1, n2, n3, n4⟩ := much_not hh2
  obtain ⟨es, hes, hsn, -⟩ := hv.inv
  obtain ⟨A, c, hvv⟩ := hsn.form
  have hll : es.length = l.length + 1 := by have := congrArg List.length hes; simp at this; omega
  rw [hll] at hvv
  subst hvv
  clear hes hsn hll
  have HMU := Lib.hid (fun w' (hn : New w w') => much_calls (x :: l) _ w' (hv.new hn))
  have HMU2 := Lib.hid (fun w' (hn : New w w') => much_calls m v2 w' (hv2.new hn))
  have hd : decide (leftL (x :: l) 200000 0 < 0) = false := decide_eq_false h
  have hd2 : decide (leftL m 200000 0 < 0) = false := decide_eq_false hh2
  rw [hd] at HMU
  rw [hd2] at HMU2
  have hle : (((l.length + 1 : Nat) : Int) == 0) = false := by simp; omega
  have hlp : (0 : Int) < ((l.length + 1 : Nat) : Int) := by omega
  have HV := Lib.hid (fun w' (hn : New w w') => (hv.sees (by omega)).new hn)
  have HV2 := Lib.hid (fun w' (hn : New w w') => (hv2.sees (by omega)).new hn)
  have HW1 := Lib.hid (fun w' (hn : New w w') => write_all (HV.out w' hn) m2 (by omega) (by omega))
  have HW2 := Lib.hid (fun w' (hn : New w w') => write_all (HV2.out w' hn) n2 (by omega) (by omega))
  rw [writeT, if_pos he, he] at HW1
  rw [writeT, if_pos hf, hf] at HW2
  have hml := (may_of he).2
  have hmm := (may_of hf).2
  have HMA := Lib.hid (show manyL [lst (x :: l ++ m) false] ≤ 2000000 by rw [manyL, manyL, lst, Dat.many, manyL_append]; omega)
  have HMB := Lib.hid (show manyL (lst [sym quoteT, x] false :: l) ≤ 2000000 by rw [manyL] at hml ⊢; rw [lst, Dat.many, manyL, manyL, manyL, sym, Dat.many, manyL]; omega)
  generalize textW (x :: l) = T1 at *
  generalize textW m = T2 at *
  have hq1 : ((T1.size : Int) + T2.size) ≤ 60000 := by omega
  have hq2 : decide (60000 < T1.size + T2.size) = false := decide_eq_false (by omega)
  have hq3 : ¬ (60000 : Int) < (T1.size : Int) + T2.size := by omega
  have H1 := Lib.hid h1
  have H2 := Lib.hid h2
  have H3 := Lib.hid h3
  unfold RdOk s1T at H1
  unfold RdNo s2T at H2
  unfold RdNo s3T at H3
  clear h hh2 h1 h2 h3 hd hd2 hv hv2 m1 m2 m3 m4 n1 n2 n3 n4 he hf hlong hml hmm
  go_enter Try.func8, Try.ntmps8
  go_wp2_with fail
  refine (works_calls _).mono ?_
  rintro e w1 ⟨rfl, hu1⟩
  have HU1 := Lib.hid hu1
  clear hu1
  go_wp2_with fail
  refine (HMU.out _ HU1.out).mono ?_
  rintro e w2 ⟨rfl, hu2⟩
  have HU2 := Lib.hid (HU1.out.trans hu2)
  clear hu2
  go_wp2_with fail
  refine (HMU2.out _ HU2.out).mono ?_
  rintro e w3 ⟨rfl, hu3⟩
  have HU3 := Lib.hid (HU2.out.trans hu3)
  clear hu3
  go_wp2_with fail
  refine (HW1.out _ HU3.out).mono ?_
  rintro e w4 ⟨rfl, hu4⟩
  have HU4 := Lib.hid (HU3.out.trans hu4)
  clear hu4
  go_wp2_with fail
  refine (HW2.out _ HU4.out).mono ?_
  rintro e w5 ⟨rfl, hu5⟩
  have HU5 := Lib.hid (HU4.out.trans hu5)
  clear hu5
  go_wp2_with fail
  refine (H1.out _).mono ?_
  rintro e w6 ⟨A6, c6, bs6, rfl, hu6, ho6, -⟩
  have HU6 := Lib.hid (HU5.out.trans hu6)
  have HO6 := Lib.hid (own_sees ho6 HMA.out)
  clear hu6 ho6
  go_wp2_with fail
  refine (H2.out _).mono ?_
  rintro e w7 ⟨rfl, hu7⟩
  have HU7 := Lib.hid (HU6.out.trans hu7)
  have HU8 := HU7
  clear hu7
  go_wp2_with fail
  refine (H3.out _).mono ?_
  rintro e w9 ⟨rfl, hu9⟩
  have HU9 := Lib.hid (HU8.out.trans hu9)
  clear hu9
  go_wp2_with fail
  go_ret
  exact ⟨rfl, HU9.out⟩
set_option maxHeartbeats 8000000 in
set_option maxRecDepth 20000 in
theorem tails_ok_no_62 (v v2 : Value) (x : Dat) (l m : List Dat) (w : World) (hv : SeesB w v (x :: l)) (hv2 : SeesB w v2 m) (h : ¬ leftL (x :: l) 200000 0 < 0) (hh2 : ¬ leftL m 200000 0 < 0) (he : writeE (x :: l) = 0) (hf : writeE m = 0) (hlong : (textW (x :: l)).size + (textW m).size ≤ 60000) (h1 : RdOk (s1T (textW (x :: l)) (textW m)) [lst (x :: l ++ m) false]) (er2 pl2 : Int) (hr2 : (er2 == 0) = false) (h2 : RdNo (s2T (textW (x :: l)) (textW m)) er2 pl2) (pl3 : Int) (h3 : RdNo (s3T (textW (x :: l))) 62 pl3) : Calls Try.prog 8 #[v, v2] w fun e w' => e = .returned (.bool true) ∧ New w w' := by
  obtain ⟨m1, m2, m3, m4⟩ := much_not h
  obtain ⟨n1, n2, n3, n4⟩ := much_not hh2
  obtain ⟨es, hes, hsn, -⟩ := hv.inv
  obtain ⟨A, c, hvv⟩ := hsn.form
  have hll : es.length = l.length + 1 := by have := congrArg List.length hes; simp at this; omega
  rw [hll] at hvv
  subst hvv
  clear hes hsn hll
  have HMU := Lib.hid (fun w' (hn : New w w') => much_calls (x :: l) _ w' (hv.new hn))
  have HMU2 := Lib.hid (fun w' (hn : New w w') => much_calls m v2 w' (hv2.new hn))
  have hd : decide (leftL (x :: l) 200000 0 < 0) = false := decide_eq_false h
  have hd2 : decide (leftL m 200000 0 < 0) = false := decide_eq_false hh2
  rw [hd] at HMU
  rw [hd2] at HMU2
  have hle : (((l.length + 1 : Nat) : Int) == 0) = false := by simp; omega
  have hlp : (0 : Int) < ((l.length + 1 : Nat) : Int) := by omega
  have HV := Lib.hid (fun w' (hn : New w w') => (hv.sees (by omega)).new hn)
  have HV2 := Lib.hid (fun w' (hn : New w w') => (hv2.sees (by omega)).new hn)
  have HW1 := Lib.hid (fun w' (hn : New w w') => write_all (HV.out w' hn) m2 (by omega) (by omega))
  have HW2 := Lib.hid (fun w' (hn : New w w') => write_all (HV2.out w' hn) n2 (by omega) (by omega))
  rw [writeT, if_pos he, he] at HW1
  rw [writeT, if_pos hf, hf] at HW2
  have hml := (may_of he).2
  have hmm := (may_of hf).2
  have HMA := Lib.hid (show manyL [lst (x :: l ++ m) false] ≤ 2000000 by rw [manyL, manyL, lst, Dat.many, manyL_append]; omega)
  have HMB := Lib.hid (show manyL (lst [sym quoteT, x] false :: l) ≤ 2000000 by rw [manyL] at hml ⊢; rw [lst, Dat.many, manyL, manyL, manyL, sym, Dat.many, manyL]; omega)
  generalize textW (x :: l) = T1 at *
  generalize textW m = T2 at *
  have hq1 : ((T1.size : Int) + T2.size) ≤ 60000 := by omega
  have hq2 : decide (60000 < T1.size + T2.size) = false := decide_eq_false (by omega)
  have hq3 : ¬ (60000 : Int) < (T1.size : Int) + T2.size := by omega
  have H1 := Lib.hid h1
  have H2 := Lib.hid h2
  have H3 := Lib.hid h3
  unfold RdOk s1T at H1
  unfold RdNo s2T at H2
  unfold RdNo s3T at H3
  clear h hh2 h1 h2 h3 hd hd2 hv hv2 m1 m2 m3 m4 n1 n2 n3 n4 he hf hlong hml hmm
  go_enter Try.func8, Try.ntmps8
  go_wp2_with fail
  refine (works_calls _).mono ?_
  rintro e w1 ⟨rfl, hu1⟩
  have HU1 := Lib.hid hu1
  clear hu1
  go_wp2_with fail
  refine (HMU.out _ HU1.out).mono ?_
  rintro e w2 ⟨rfl, hu2⟩
  have HU2 := Lib.hid (HU1.out.trans hu2)
  clear hu2
  go_wp2_with fail
  refine (HMU2.out _ HU2.out).mono ?_
  rintro e w3 ⟨rfl, hu3⟩
  have HU3 := Lib.hid (HU2.out.trans hu3)
  clear hu3
  go_wp2_with fail
  refine (HW1.out _ HU3.out).mono ?_
  rintro e w4 ⟨rfl, hu4⟩
  have HU4 := Lib.hid (HU3.out.trans hu4)
  clear hu4
  go_wp2_with fail
  refine (HW2.out _ HU4.out).mono ?_
  rintro e w5 ⟨rfl, hu5⟩
  have HU5 := Lib.hid (HU4.out.trans hu5)
  clear hu5
  go_wp2_with fail
  refine (H1.out _).mono ?_
  rintro e w6 ⟨A6, c6, bs6, rfl, hu6, ho6, -⟩
  have HU6 := Lib.hid (HU5.out.trans hu6)
  have HO6 := Lib.hid (own_sees ho6 HMA.out)
  clear hu6 ho6
  go_wp2_with fail
  refine (H2.out _).mono ?_
  rintro e w7 ⟨rfl, hu7⟩
  have HU7 := Lib.hid (HU6.out.trans hu7)
  have HU8 := HU7
  clear hu7
  go_wp2_with fail
  refine (H3.out _).mono ?_
  rintro e w9 ⟨rfl, hu9⟩
  have HU9 := Lib.hid (HU8.out.trans hu9)
  clear hu9
  go_wp2_with fail
  go_ret
  exact ⟨rfl, HU9.out⟩
set_option maxHeartbeats 8000000 in
set_option maxRecDepth 20000 in
theorem tails_61_ok_61 (v v2 : Value) (x : Dat) (l m : List Dat) (w : World) (hv : SeesB w v (x :: l)) (hv2 : SeesB w v2 m) (h : ¬ leftL (x :: l) 200000 0 < 0) (hh2 : ¬ leftL m 200000 0 < 0) (he : writeE (x :: l) = 0) (hf : writeE m = 0) (hlong : (textW (x :: l)).size + (textW m).size ≤ 60000) (pl1 : Int) (h1 : RdNo (s1T (textW (x :: l)) (textW m)) 61 pl1) (h2 : RdOk (s2T (textW (x :: l)) (textW m)) [lst (x :: l ++ m) false]) (pl3 : Int) (h3 : RdNo (s3T (textW (x :: l))) 61 pl3) : Calls Try.prog 8 #[v, v2] w fun e w' => e = .returned (.bool true) ∧ New w w' := by
  obtain ⟨m1, m2, m3, m4⟩ := much_not h
  obtain ⟨n1, n2, n3, n4⟩ := much_not hh2
  obtain ⟨es, hes, hsn, -⟩ := hv.inv
  obtain ⟨A, c, hvv⟩ := hsn.form
  have hll : es.length = l.length + 1 := by have := congrArg List.length hes; simp at this; omega
  rw [hll] at hvv
  subst hvv
  clear hes hsn hll
  have HMU := Lib.hid (fun w' (hn : New w w') => much_calls (x :: l) _ w' (hv.new hn))
  have HMU2 := Lib.hid (fun w' (hn : New w w') => much_calls m v2 w' (hv2.new hn))
  have hd : decide (leftL (x :: l) 200000 0 < 0) = false := decide_eq_false h
  have hd2 : decide (leftL m 200000 0 < 0) = false := decide_eq_false hh2
  rw [hd] at HMU
  rw [hd2] at HMU2
  have hle : (((l.length + 1 : Nat) : Int) == 0) = false := by simp; omega
  have hlp : (0 : Int) < ((l.length + 1 : Nat) : Int) := by omega
  have HV := Lib.hid (fun w' (hn : New w w') => (hv.sees (by omega)).new hn)
  have HV2 := Lib.hid (fun w' (hn : New w w') => (hv2.sees (by omega)).new hn)
  have HW1 := Lib.hid (fun w' (hn : New w w') => write_all (HV.out w' hn) m2 (by omega) (by omega))
  have HW2 := Lib.hid (fun w' (hn : New w w') => write_all (HV2.out w' hn) n2 (by omega) (by omega))
  rw [writeT, if_pos he, he] at HW1
  rw [writeT, if_pos hf, hf] at HW2
  have hml := (may_of he).2
  have hmm := (may_of hf).2
  have HMA := Lib.hid (show manyL [lst (x :: l ++ m) false] ≤ 2000000 by rw [manyL, manyL, lst, Dat.many, manyL_append]; omega)
  have HMB := Lib.hid (show manyL (lst [sym quoteT, x] false :: l) ≤ 2000000 by rw [manyL] at hml ⊢; rw [lst, Dat.many, manyL, manyL, manyL, sym, Dat.many, manyL]; omega)
  generalize textW (x :: l) = T1 at *
  generalize textW m = T2 at *
  have hq1 : ((T1.size : Int) + T2.size) ≤ 60000 := by omega
  have hq2 : decide (60000 < T1.size + T2.size) = false := decide_eq_false (by omega)
  have hq3 : ¬ (60000 : Int) < (T1.size : Int) + T2.size := by omega
  have H1 := Lib.hid h1
  have H2 := Lib.hid h2
  have H3 := Lib.hid h3
  unfold RdNo s1T at H1
  unfold RdOk s2T at H2
  unfold RdNo s3T at H3
  clear h hh2 h1 h2 h3 hd hd2 hv hv2 m1 m2 m3 m4 n1 n2 n3 n4 he hf hlong hml hmm
  go_enter Try.func8, Try.ntmps8
  go_wp2_with fail
  refine (works_calls _).mono ?_
  rintro e w1 ⟨rfl, hu1⟩
  have HU1 := Lib.hid hu1
  clear hu1
  go_wp2_with fail
  refine (HMU.out _ HU1.out).mono ?_
  rintro e w2 ⟨rfl, hu2⟩
  have HU2 := Lib.hid (HU1.out.trans hu2)
  clear hu2
  go_wp2_with fail
  refine (HMU2.out _ HU2.out).mono ?_
  rintro e w3 ⟨rfl, hu3⟩
  have HU3 := Lib.hid (HU2.out.trans hu3)
  clear hu3
  go_wp2_with fail
  refine (HW1.out _ HU3.out).mono ?_
  rintro e w4 ⟨rfl, hu4⟩
  have HU4 := Lib.hid (HU3.out.trans hu4)
  clear hu4
  go_wp2_with fail
  refine (HW2.out _ HU4.out).mono ?_
  rintro e w5 ⟨rfl, hu5⟩
  have HU5 := Lib.hid (HU4.out.trans hu5)
  clear hu5
  go_wp2_with fail
  refine (H1.out _).mono ?_
  rintro e w6 ⟨rfl, hu6⟩
  have HU6 := Lib.hid (HU5.out.trans hu6)
  clear hu6
  go_wp2_with fail
  refine (H2.out _).mono ?_
  rintro e w7 ⟨A7, c7, bs7, rfl, hu7, ho7, -⟩
  have HU7 := Lib.hid (HU6.out.trans hu7)
  have HO7 := Lib.hid (own_sees ho7 HMA.out)
  have HU8 := HU7
  clear hu7 ho7
  go_wp2_with fail
  refine (H3.out _).mono ?_
  rintro e w9 ⟨rfl, hu9⟩
  have HU9 := Lib.hid (HU8.out.trans hu9)
  clear hu9
  go_wp2_with fail
  go_ret
  exact ⟨rfl, HU9.out⟩
set_option maxHeartbeats 8000000 in
set_option maxRecDepth 20000 in
theorem tails_61_ok_62 (v v2 : Value) (x : Dat) (l m : List Dat) (w : World) (hv : SeesB w v (x :: l)) (hv2 : SeesB w v2 m) (h : ¬ leftL (x :: l) 200000 0 < 0) (hh2 : ¬ leftL m 200000 0 < 0) (he : writeE (x :: l) = 0) (hf : writeE m = 0) (hlong : (textW (x :: l)).size + (textW m).size ≤ 60000) (pl1 : Int) (h1 : RdNo (s1T (textW (x :: l)) (textW m)) 61 pl1) (h2 : RdOk (s2T (textW (x :: l)) (textW m)) [lst (x :: l ++ m) false]) (pl3 : Int) (h3 : RdNo (s3T (textW (x :: l))) 62 pl3) : Calls Try.prog 8 #[v, v2] w fun e w' => e = .returned (.bool true) ∧ New w w' := by
  obtain ⟨m1, m2, m3, m4⟩ := much_not h
  obtain ⟨n1, n2, n3, n4⟩ := much_not hh2
  obtain ⟨es, hes, hsn, -⟩ := hv.inv
  obtain ⟨A, c, hvv⟩ := hsn.form
  have hll : es.length = l.length + 1 := by have := congrArg List.length hes; simp at this; omega
  rw [hll] at hvv
  subst hvv
  clear hes hsn hll
  have HMU := Lib.hid (fun w' (hn : New w w') => much_calls (x :: l) _ w' (hv.new hn))
  have HMU2 := Lib.hid (fun w' (hn : New w w') => much_calls m v2 w' (hv2.new hn))
  have hd : decide (leftL (x :: l) 200000 0 < 0) = false := decide_eq_false h
  have hd2 : decide (leftL m 200000 0 < 0) = false := decide_eq_false hh2
  rw [hd] at HMU
  rw [hd2] at HMU2
  have hle : (((l.length + 1 : Nat) : Int) == 0) = false := by simp; omega
  have hlp : (0 : Int) < ((l.length + 1 : Nat) : Int) := by omega
  have HV := Lib.hid (fun w' (hn : New w w') => (hv.sees (by omega)).new hn)
  have HV2 := Lib.hid (fun w' (hn : New w w') => (hv2.sees (by omega)).new hn)
  have HW1 := Lib.hid (fun w' (hn : New w w') => write_all (HV.out w' hn) m2 (by omega) (by omega))
  have HW2 := Lib.hid (fun w' (hn : New w w') => write_all (HV2.out w' hn) n2 (by omega) (by omega))
  rw [writeT, if_pos he, he] at HW1
  rw [writeT, if_pos hf, hf] at HW2
  have hml := (may_of he).2
  have hmm := (may_of hf).2
  have HMA := Lib.hid (show manyL [lst (x :: l ++ m) false] ≤ 2000000 by rw [manyL, manyL, lst, Dat.many, manyL_append]; omega)
  have HMB := Lib.hid (show manyL (lst [sym quoteT, x] false :: l) ≤ 2000000 by rw [manyL] at hml ⊢; rw [lst, Dat.many, manyL, manyL, manyL, sym, Dat.many, manyL]; omega)
  generalize textW (x :: l) = T1 at *
  generalize textW m = T2 at *
  have hq1 : ((T1.size : Int) + T2.size) ≤ 60000 := by omega
  have hq2 : decide (60000 < T1.size + T2.size) = false := decide_eq_false (by omega)
  have hq3 : ¬ (60000 : Int) < (T1.size : Int) + T2.size := by omega
  have H1 := Lib.hid h1
  have H2 := Lib.hid h2
  have H3 := Lib.hid h3
  unfold RdNo s1T at H1
  unfold RdOk s2T at H2
  unfold RdNo s3T at H3
  clear h hh2 h1 h2 h3 hd hd2 hv hv2 m1 m2 m3 m4 n1 n2 n3 n4 he hf hlong hml hmm
  go_enter Try.func8, Try.ntmps8
  go_wp2_with fail
  refine (works_calls _).mono ?_
  rintro e w1 ⟨rfl, hu1⟩
  have HU1 := Lib.hid hu1
  clear hu1
  go_wp2_with fail
  refine (HMU.out _ HU1.out).mono ?_
  rintro e w2 ⟨rfl, hu2⟩
  have HU2 := Lib.hid (HU1.out.trans hu2)
  clear hu2
  go_wp2_with fail
  refine (HMU2.out _ HU2.out).mono ?_
  rintro e w3 ⟨rfl, hu3⟩
  have HU3 := Lib.hid (HU2.out.trans hu3)
  clear hu3
  go_wp2_with fail
  refine (HW1.out _ HU3.out).mono ?_
  rintro e w4 ⟨rfl, hu4⟩
  have HU4 := Lib.hid (HU3.out.trans hu4)
  clear hu4
  go_wp2_with fail
  refine (HW2.out _ HU4.out).mono ?_
  rintro e w5 ⟨rfl, hu5⟩
  have HU5 := Lib.hid (HU4.out.trans hu5)
  clear hu5
  go_wp2_with fail
  refine (H1.out _).mono ?_
  rintro e w6 ⟨rfl, hu6⟩
  have HU6 := Lib.hid (HU5.out.trans hu6)
  clear hu6
  go_wp2_with fail
  refine (H2.out _).mono ?_
  rintro e w7 ⟨A7, c7, bs7, rfl, hu7, ho7, -⟩
  have HU7 := Lib.hid (HU6.out.trans hu7)
  have HO7 := Lib.hid (own_sees ho7 HMA.out)
  have HU8 := HU7
  clear hu7 ho7
  go_wp2_with fail
  refine (H3.out _).mono ?_
  rintro e w9 ⟨rfl, hu9⟩
  have HU9 := Lib.hid (HU8.out.trans hu9)
  clear hu9
  go_wp2_with fail
  go_ret
  exact ⟨rfl, HU9.out⟩
set_option maxHeartbeats 8000000 in
set_option maxRecDepth 20000 in
theorem tails_61_no_61 (v v2 : Value) (x : Dat) (l m : List Dat) (w : World) (hv : SeesB w v (x :: l)) (hv2 : SeesB w v2 m) (h : ¬ leftL (x :: l) 200000 0 < 0) (hh2 : ¬ leftL m 200000 0 < 0) (he : writeE (x :: l) = 0) (hf : writeE m = 0) (hlong : (textW (x :: l)).size + (textW m).size ≤ 60000) (pl1 : Int) (h1 : RdNo (s1T (textW (x :: l)) (textW m)) 61 pl1) (er2 pl2 : Int) (hr2 : (er2 == 0) = false) (h2 : RdNo (s2T (textW (x :: l)) (textW m)) er2 pl2) (pl3 : Int) (h3 : RdNo (s3T (textW (x :: l))) 61 pl3) : Calls Try.prog 8 #[v, v2] w fun e w' => e = .returned (.bool true) ∧ New w w' := by
  obtain ⟨m1, m2, m3, m4⟩ := much_not h
  obtain ⟨n1, n2, n3, n4⟩ := much_not hh2
  obtain ⟨es, hes, hsn, -⟩ := hv.inv
  obtain ⟨A, c, hvv⟩ := hsn.form
  have hll : es.length = l.length + 1 := by have := congrArg List.length hes; simp at this; omega
  rw [hll] at hvv
  subst hvv
  clear hes hsn hll
  have HMU := Lib.hid (fun w' (hn : New w w') => much_calls (x :: l) _ w' (hv.new hn))
  have HMU2 := Lib.hid (fun w' (hn : New w w') => much_calls m v2 w' (hv2.new hn))
  have hd : decide (leftL (x :: l) 200000 0 < 0) = false := decide_eq_false h
  have hd2 : decide (leftL m 200000 0 < 0) = false := decide_eq_false hh2
  rw [hd] at HMU
  rw [hd2] at HMU2
  have hle : (((l.length + 1 : Nat) : Int) == 0) = false := by simp; omega
  have hlp : (0 : Int) < ((l.length + 1 : Nat) : Int) := by omega
  have HV := Lib.hid (fun w' (hn : New w w') => (hv.sees (by omega)).new hn)
  have HV2 := Lib.hid (fun w' (hn : New w w') => (hv2.sees (by omega)).new hn)
  have HW1 := Lib.hid (fun w' (hn : New w w') => write_all (HV.out w' hn) m2 (by omega) (by omega))
  have HW2 := Lib.hid (fun w' (hn : New w w') => write_all (HV2.out w' hn) n2 (by omega) (by omega))
  rw [writeT, if_pos he, he] at HW1
  rw [writeT, if_pos hf, hf] at HW2
  have hml := (may_of he).2
  have hmm := (may_of hf).2
  have HMA := Lib.hid (show manyL [lst (x :: l ++ m) false] ≤ 2000000 by rw [manyL, manyL, lst, Dat.many, manyL_append]; omega)
  have HMB := Lib.hid (show manyL (lst [sym quoteT, x] false :: l) ≤ 2000000 by rw [manyL] at hml ⊢; rw [lst, Dat.many, manyL, manyL, manyL, sym, Dat.many, manyL]; omega)
  generalize textW (x :: l) = T1 at *
  generalize textW m = T2 at *
  have hq1 : ((T1.size : Int) + T2.size) ≤ 60000 := by omega
  have hq2 : decide (60000 < T1.size + T2.size) = false := decide_eq_false (by omega)
  have hq3 : ¬ (60000 : Int) < (T1.size : Int) + T2.size := by omega
  have H1 := Lib.hid h1
  have H2 := Lib.hid h2
  have H3 := Lib.hid h3
  unfold RdNo s1T at H1
  unfold RdNo s2T at H2
  unfold RdNo s3T at H3
  clear h hh2 h1 h2 h3 hd hd2 hv hv2 m1 m2 m3 m4 n1 n2 n3 n4 he hf hlong hml hmm
  go_enter Try.func8, Try.ntmps8
  go_wp2_with fail
  refine (works_calls _).mono ?_
  rintro e w1 ⟨rfl, hu1⟩
  have HU1 := Lib.hid hu1
  clear hu1
  go_wp2_with fail
  refine (HMU.out _ HU1.out).mono ?_
  rintro e w2 ⟨rfl, hu2⟩
  have HU2 := Lib.hid (HU1.out.trans hu2)
  clear hu2
  go_wp2_with fail
  refine (HMU2.out _ HU2.out).mono ?_
  rintro e w3 ⟨rfl, hu3⟩
  have HU3 := Lib.hid (HU2.out.trans hu3)
  clear hu3
  go_wp2_with fail
  refine (HW1.out _ HU3.out).mono ?_
  rintro e w4 ⟨rfl, hu4⟩
  have HU4 := Lib.hid (HU3.out.trans hu4)
  clear hu4
  go_wp2_with fail
  refine (HW2.out _ HU4.out).mono ?_
  rintro e w5 ⟨rfl, hu5⟩
  have HU5 := Lib.hid (HU4.out.trans hu5)
  clear hu5
  go_wp2_with fail
  refine (H1.out _).mono ?_
  rintro e w6 ⟨rfl, hu6⟩
  have HU6 := Lib.hid (HU5.out.trans hu6)
  clear hu6
  go_wp2_with fail
  refine (H2.out _).mono ?_
  rintro e w7 ⟨rfl, hu7⟩
  have HU7 := Lib.hid (HU6.out.trans hu7)
  have HU8 := HU7
  clear hu7
  go_wp2_with fail
  refine (H3.out _).mono ?_
  rintro e w9 ⟨rfl, hu9⟩
  have HU9 := Lib.hid (HU8.out.trans hu9)
  clear hu9
  go_wp2_with fail
  go_ret
  exact ⟨rfl, HU9.out⟩
set_option maxHeartbeats 8000000 in
set_option maxRecDepth 20000 in
theorem tails_61_no_62 (v v2 : Value) (x : Dat) (l m : List Dat) (w : World) (hv : SeesB w v (x :: l)) (hv2 : SeesB w v2 m) (h : ¬ leftL (x :: l) 200000 0 < 0) (hh2 : ¬ leftL m 200000 0 < 0) (he : writeE (x :: l) = 0) (hf : writeE m = 0) (hlong : (textW (x :: l)).size + (textW m).size ≤ 60000) (pl1 : Int) (h1 : RdNo (s1T (textW (x :: l)) (textW m)) 61 pl1) (er2 pl2 : Int) (hr2 : (er2 == 0) = false) (h2 : RdNo (s2T (textW (x :: l)) (textW m)) er2 pl2) (pl3 : Int) (h3 : RdNo (s3T (textW (x :: l))) 62 pl3) : Calls Try.prog 8 #[v, v2] w fun e w' => e = .returned (.bool true) ∧ New w w' := by
  obtain ⟨m1, m2, m3, m4⟩ := much_not h
  obtain ⟨n1, n2, n3, n4⟩ := much_not hh2
  obtain ⟨es, hes, hsn, -⟩ := hv.inv
  obtain ⟨A, c, hvv⟩ := hsn.form
  have hll : es.length = l.length + 1 := by have := congrArg List.length hes; simp at this; omega
  rw [hll] at hvv
  subst hvv
  clear hes hsn hll
  have HMU := Lib.hid (fun w' (hn : New w w') => much_calls (x :: l) _ w' (hv.new hn))
  have HMU2 := Lib.hid (fun w' (hn : New w w') => much_calls m v2 w' (hv2.new hn))
  have hd : decide (leftL (x :: l) 200000 0 < 0) = false := decide_eq_false h
  have hd2 : decide (leftL m 200000 0 < 0) = false := decide_eq_false hh2
  rw [hd] at HMU
  rw [hd2] at HMU2
  have hle : (((l.length + 1 : Nat) : Int) == 0) = false := by simp; omega
  have hlp : (0 : Int) < ((l.length + 1 : Nat) : Int) := by omega
  have HV := Lib.hid (fun w' (hn : New w w') => (hv.sees (by omega)).new hn)
  have HV2 := Lib.hid (fun w' (hn : New w w') => (hv2.sees (by omega)).new hn)
  have HW1 := Lib.hid (fun w' (hn : New w w') => write_all (HV.out w' hn) m2 (by omega) (by omega))
  have HW2 := Lib.hid (fun w' (hn : New w w') => write_all (HV2.out w' hn) n2 (by omega) (by omega))
  rw [writeT, if_pos he, he] at HW1
  rw [writeT, if_pos hf, hf] at HW2
  have hml := (may_of he).2
  have hmm := (may_of hf).2
  have HMA := Lib.hid (show manyL [lst (x :: l ++ m) false] ≤ 2000000 by rw [manyL, manyL, lst, Dat.many, manyL_append]; omega)
  have HMB := Lib.hid (show manyL (lst [sym quoteT, x] false :: l) ≤ 2000000 by rw [manyL] at hml ⊢; rw [lst, Dat.many, manyL, manyL, manyL, sym, Dat.many, manyL]; omega)
  generalize textW (x :: l) = T1 at *
  generalize textW m = T2 at *
  have hq1 : ((T1.size : Int) + T2.size) ≤ 60000 := by omega
  have hq2 : decide (60000 < T1.size + T2.size) = false := decide_eq_false (by omega)
  have hq3 : ¬ (60000 : Int) < (T1.size : Int) + T2.size := by omega
  have H1 := Lib.hid h1
  have H2 := Lib.hid h2
  have H3 := Lib.hid h3
  unfold RdNo s1T at H1
  unfold RdNo s2T at H2
  unfold RdNo s3T at H3
  clear h hh2 h1 h2 h3 hd hd2 hv hv2 m1 m2 m3 m4 n1 n2 n3 n4 he hf hlong hml hmm
  go_enter Try.func8, Try.ntmps8
  go_wp2_with fail
  refine (works_calls _).mono ?_
  rintro e w1 ⟨rfl, hu1⟩
  have HU1 := Lib.hid hu1
  clear hu1
  go_wp2_with fail
  refine (HMU.out _ HU1.out).mono ?_
  rintro e w2 ⟨rfl, hu2⟩
  have HU2 := Lib.hid (HU1.out.trans hu2)
  clear hu2
  go_wp2_with fail
  refine (HMU2.out _ HU2.out).mono ?_
  rintro e w3 ⟨rfl, hu3⟩
  have HU3 := Lib.hid (HU2.out.trans hu3)
  clear hu3
  go_wp2_with fail
  refine (HW1.out _ HU3.out).mono ?_
  rintro e w4 ⟨rfl, hu4⟩
  have HU4 := Lib.hid (HU3.out.trans hu4)
  clear hu4
  go_wp2_with fail
  refine (HW2.out _ HU4.out).mono ?_
  rintro e w5 ⟨rfl, hu5⟩
  have HU5 := Lib.hid (HU4.out.trans hu5)
  clear hu5
  go_wp2_with fail
  refine (H1.out _).mono ?_
  rintro e w6 ⟨rfl, hu6⟩
  have HU6 := Lib.hid (HU5.out.trans hu6)
  clear hu6
  go_wp2_with fail
  refine (H2.out _).mono ?_
  rintro e w7 ⟨rfl, hu7⟩
  have HU7 := Lib.hid (HU6.out.trans hu7)
  have HU8 := HU7
  clear hu7
  go_wp2_with fail
  refine (H3.out _).mono ?_
  rintro e w9 ⟨rfl, hu9⟩
  have HU9 := Lib.hid (HU8.out.trans hu9)
  clear hu9
  go_wp2_with fail
  go_ret
  exact ⟨rfl, HU9.out⟩
set_option maxHeartbeats 8000000 in
set_option maxRecDepth 20000 in
theorem tails_62_ok_61 (v v2 : Value) (x : Dat) (l m : List Dat) (w : World) (hv : SeesB w v (x :: l)) (hv2 : SeesB w v2 m) (h : ¬ leftL (x :: l) 200000 0 < 0) (hh2 : ¬ leftL m 200000 0 < 0) (he : writeE (x :: l) = 0) (hf : writeE m = 0) (hlong : (textW (x :: l)).size + (textW m).size ≤ 60000) (pl1 : Int) (h1 : RdNo (s1T (textW (x :: l)) (textW m)) 62 pl1) (h2 : RdOk (s2T (textW (x :: l)) (textW m)) [lst (x :: l ++ m) false]) (pl3 : Int) (h3 : RdNo (s3T (textW (x :: l))) 61 pl3) : Calls Try.prog 8 #[v, v2] w fun e w' => e = .returned (.bool true) ∧ New w w' := by
  obtain ⟨m1, m2, m3, m4⟩ := much_not h
  obtain ⟨n1, n2, n3, n4⟩ := much_not hh2
  obtain ⟨es, hes, hsn, -⟩ := hv.inv
  obtain ⟨A, c, hvv⟩ := hsn.form
  have hll : es.length = l.length + 1 := by have := congrArg List.length hes; simp at this; omega
  rw [hll] at hvv
  subst hvv
  clear hes hsn hll
  have HMU := Lib.hid (fun w' (hn : New w w') => much_calls (x :: l) _ w' (hv.new hn))
  have HMU2 := Lib.hid (fun w' (hn : New w w') => much_calls m v2 w' (hv2.new hn))
  have hd : decide (leftL (x :: l) 200000 0 < 0) = false := decide_eq_false h
  have hd2 : decide (leftL m 200000 0 < 0) = false := decide_eq_false hh2
  rw [hd] at HMU
  rw [hd2] at HMU2
  have hle : (((l.length + 1 : Nat) : Int) == 0) = false := by simp; omega
  have hlp : (0 : Int) < ((l.length + 1 : Nat) : Int) := by omega
  have HV := Lib.hid (fun w' (hn : New w w') => (hv.sees (by omega)).new hn)
  have HV2 := Lib.hid (fun w' (hn : New w w') => (hv2.sees (by omega)).new hn)
  have HW1 := Lib.hid (fun w' (hn : New w w') => write_all (HV.out w' hn) m2 (by omega) (by omega))
  have HW2 := Lib.hid (fun w' (hn : New w w') => write_all (HV2.out w' hn) n2 (by omega) (by omega))
  rw [writeT, if_pos he, he] at HW1
  rw [writeT, if_pos hf, hf] at HW2
  have hml := (may_of he).2
  have hmm := (may_of hf).2
  have HMA := Lib.hid (show manyL [lst (x :: l ++ m) false] ≤ 2000000 by rw [manyL, manyL, lst, Dat.many, manyL_append]; omega)
  have HMB := Lib.hid (show manyL (lst [sym quoteT, x] false :: l) ≤ 2000000 by rw [manyL] at hml ⊢; rw [lst, Dat.many, manyL, manyL, manyL, sym, Dat.many, manyL]; omega)
  generalize textW (x :: l) = T1 at *
  generalize textW m = T2 at *
  have hq1 : ((T1.size : Int) + T2.size) ≤ 60000 := by omega
  have hq2 : decide (60000 < T1.size + T2.size) = false := decide_eq_false (by omega)
  have hq3 : ¬ (60000 : Int) < (T1.size : Int) + T2.size := by omega
  have H1 := Lib.hid h1
  have H2 := Lib.hid h2
  have H3 := Lib.hid h3
  unfold RdNo s1T at H1
  unfold RdOk s2T at H2
  unfold RdNo s3T at H3
  clear h hh2 h1 h2 h3 hd hd2 hv hv2 m1 m2 m3 m4 n1 n2 n3 n4 he hf hlong hml hmm
  go_enter Try.func8, Try.ntmps8
  go_wp2_with fail
  refine (works_calls _).mono ?_
  rintro e w1 ⟨rfl, hu1⟩
  have HU1 := Lib.hid hu1
  clear hu1
  go_wp2_with fail
  refine (HMU.out _ HU1.out).mono ?_
  rintro e w2 ⟨rfl, hu2⟩
  have HU2 := Lib.hid (HU1.out.trans hu2)
  clear hu2
  go_wp2_with fail
  refine (HMU2.out _ HU2.out).mono ?_
  rintro e w3 ⟨rfl, hu3⟩
  have HU3 := Lib.hid (HU2.out.trans hu3)
  clear hu3
  go_wp2_with fail
  refine (HW1.out _ HU3.out).mono ?_
  rintro e w4 ⟨rfl, hu4⟩
  have HU4 := Lib.hid (HU3.out.trans hu4)
  clear hu4
  go_wp2_with fail
  refine (HW2.out _ HU4.out).mono ?_
  rintro e w5 ⟨rfl, hu5⟩
  have HU5 := Lib.hid (HU4.out.trans hu5)
  clear hu5
  go_wp2_with fail
  refine (H1.out _).mono ?_
  rintro e w6 ⟨rfl, hu6⟩
  have HU6 := Lib.hid (HU5.out.trans hu6)
  clear hu6
  go_wp2_with fail
  refine (H2.out _).mono ?_
  rintro e w7 ⟨A7, c7, bs7, rfl, hu7, ho7, -⟩
  have HU7 := Lib.hid (HU6.out.trans hu7)
  have HO7 := Lib.hid (own_sees ho7 HMA.out)
  have HU8 := HU7
  clear hu7 ho7
  go_wp2_with fail
  refine (H3.out _).mono ?_
  rintro e w9 ⟨rfl, hu9⟩
  have HU9 := Lib.hid (HU8.out.trans hu9)
  clear hu9
  go_wp2_with fail
  go_ret
  exact ⟨rfl, HU9.out⟩
set_option maxHeartbeats 8000000 in
set_option maxRecDepth 20000 in
theorem tails_62_ok_62 (v v2 : Value) (x : Dat) (l m : List Dat) (w : World) (hv : SeesB w v (x :: l)) (hv2 : SeesB w v2 m) (h : ¬ leftL (x :: l) 200000 0 < 0) (hh2 : ¬ leftL m 200000 0 < 0) (he : writeE (x :: l) = 0) (hf : writeE m = 0) (hlong : (textW (x :: l)).size + (textW m).size ≤ 60000) (pl1 : Int) (h1 : RdNo (s1T (textW (x :: l)) (textW m)) 62 pl1) (h2 : RdOk (s2T (textW (x :: l)) (textW m)) [lst (x :: l ++ m) false]) (pl3 : Int) (h3 : RdNo (s3T (textW (x :: l))) 62 pl3) : Calls Try.prog 8 #[v, v2] w fun e w' => e = .returned (.bool true) ∧ New w w' := by
  obtain ⟨m1, m2, m3, m4⟩ := much_not h
  obtain ⟨n1, n2, n3, n4⟩ := much_not hh2
  obtain ⟨es, hes, hsn, -⟩ := hv.inv
  obtain ⟨A, c, hvv⟩ := hsn.form
  have hll : es.length = l.length + 1 := by have := congrArg List.length hes; simp at this; omega
  rw [hll] at hvv
  subst hvv
  clear hes hsn hll
  have HMU := Lib.hid (fun w' (hn : New w w') => much_calls (x :: l) _ w' (hv.new hn))
  have HMU2 := Lib.hid (fun w' (hn : New w w') => much_calls m v2 w' (hv2.new hn))
  have hd : decide (leftL (x :: l) 200000 0 < 0) = false := decide_eq_false h
  have hd2 : decide (leftL m 200000 0 < 0) = false := decide_eq_false hh2
  rw [hd] at HMU
  rw [hd2] at HMU2
  have hle : (((l.length + 1 : Nat) : Int) == 0) = false := by simp; omega
  have hlp : (0 : Int) < ((l.length + 1 : Nat) : Int) := by omega
  have HV := Lib.hid (fun w' (hn : New w w') => (hv.sees (by omega)).new hn)
  have HV2 := Lib.hid (fun w' (hn : New w w') => (hv2.sees (by omega)).new hn)
  have HW1 := Lib.hid (fun w' (hn : New w w') => write_all (HV.out w' hn) m2 (by omega) (by omega))
  have HW2 := Lib.hid (fun w' (hn : New w w') => write_all (HV2.out w' hn) n2 (by omega) (by omega))
  rw [writeT, if_pos he, he] at HW1
  rw [writeT, if_pos hf, hf] at HW2
  have hml := (may_of he).2
  have hmm := (may_of hf).2
  have HMA := Lib.hid (show manyL [lst (x :: l ++ m) false] ≤ 2000000 by rw [manyL, manyL, lst, Dat.many, manyL_append]; omega)
  have HMB := Lib.hid (show manyL (lst [sym quoteT, x] false :: l) ≤ 2000000 by rw [manyL] at hml ⊢; rw [lst, Dat.many, manyL, manyL, manyL, sym, Dat.many, manyL]; omega)
  generalize textW (x :: l) = T1 at *
  generalize textW m = T2 at *
  have hq1 : ((T1.size : Int) + T2.size) ≤ 60000 := by omega
  have hq2 : decide (60000 < T1.size + T2.size) = false := decide_eq_false (by omega)
  have hq3 : ¬ (60000 : Int) < (T1.size : Int) + T2.size := by omega
  have H1 := Lib.hid h1
  have H2 := Lib.hid h2
  have H3 := Lib.hid h3
  unfold RdNo s1T at H1
  unfold RdOk s2T at H2
  unfold RdNo s3T at H3
  clear h hh2 h1 h2 h3 hd hd2 hv hv2 m1 m2 m3 m4 n1 n2 n3 n4 he hf hlong hml hmm
  go_enter Try.func8, Try.ntmps8
  go_wp2_with fail
  refine (works_calls _).mono ?_
  rintro e w1 ⟨rfl, hu1⟩
  have HU1 := Lib.hid hu1
  clear hu1
  go_wp2_with fail
  refine (HMU.out _ HU1.out).mono ?_
  rintro e w2 ⟨rfl, hu2⟩
  have HU2 := Lib.hid (HU1.out.trans hu2)
  clear hu2
  go_wp2_with fail
  refine (HMU2.out _ HU2.out).mono ?_
  rintro e w3 ⟨rfl, hu3⟩
  have HU3 := Lib.hid (HU2.out.trans hu3)
  clear hu3
  go_wp2_with fail
  refine (HW1.out _ HU3.out).mono ?_
  rintro e w4 ⟨rfl, hu4⟩
  have HU4 := Lib.hid (HU3.out.trans hu4)
  clear hu4
  go_wp2_with fail
  refine (HW2.out _ HU4.out).mono ?_
  rintro e w5 ⟨rfl, hu5⟩
  have HU5 := Lib.hid (HU4.out.trans hu5)
  clear hu5
  go_wp2_with fail
  refine (H1.out _).mono ?_
  rintro e w6 ⟨rfl, hu6⟩
  have HU6 := Lib.hid (HU5.out.trans hu6)
  clear hu6
  go_wp2_with fail
  refine (H2.out _).mono ?_
  rintro e w7 ⟨A7, c7, bs7, rfl, hu7, ho7, -⟩
  have HU7 := Lib.hid (HU6.out.trans hu7)
  have HO7 := Lib.hid (own_sees ho7 HMA.out)
  have HU8 := HU7
  clear hu7 ho7
  go_wp2_with fail
  refine (H3.out _).mono ?_
  rintro e w9 ⟨rfl, hu9⟩
  have HU9 := Lib.hid (HU8.out.trans hu9)
  clear hu9
  go_wp2_with fail
  go_ret
  exact ⟨rfl, HU9.out⟩
set_option maxHeartbeats 8000000 in
set_option maxRecDepth 20000 in
theorem tails_62_no_61 (v v2 : Value) (x : Dat) (l m : List Dat) (w : World) (hv : SeesB w v (x :: l)) (hv2 : SeesB w v2 m) (h : ¬ leftL (x :: l) 200000 0 < 0) (hh2 : ¬ leftL m 200000 0 < 0) (he : writeE (x :: l) = 0) (hf : writeE m = 0) (hlong : (textW (x :: l)).size + (textW m).size ≤ 60000) (pl1 : Int) (h1 : RdNo (s1T (textW (x :: l)) (textW m)) 62 pl1) (er2 pl2 : Int) (hr2 : (er2 == 0) = false) (h2 : RdNo (s2T (textW (x :: l)) (textW m)) er2 pl2) (pl3 : Int) (h3 : RdNo (s3T (textW (x :: l))) 61 pl3) : Calls Try.prog 8 #[v, v2] w fun e w' => e = .returned (.bool true) ∧ New w w' := by
  obtain ⟨m1, m2, m3, m4⟩ := much_not h
  obtain ⟨n1, n2, n3, n4⟩ := much_not hh2
  obtain ⟨es, hes, hsn, -⟩ := hv.inv
  obtain ⟨A, c, hvv⟩ := hsn.form
  have hll : es.length = l.length + 1 := by have := congrArg List.length hes; simp at this; omega
  rw [hll] at hvv
  subst hvv
  clear hes hsn hll
  have HMU := Lib.hid (fun w' (hn : New w w') => much_calls (x :: l) _ w' (hv.new hn))
  have HMU2 := Lib.hid (fun w' (hn : New w w') => much_calls m v2 w' (hv2.new hn))
  have hd : decide (leftL (x :: l) 200000 0 < 0) = false := decide_eq_false h
  have hd2 : decide (leftL m 200000 0 < 0) = false := decide_eq_false hh2
  rw [hd] at HMU
  rw [hd2] at HMU2
  have hle : (((l.length + 1 : Nat) : Int) == 0) = false := by simp; omega
  have hlp : (0 : Int) < ((l.length + 1 : Nat) : Int) := by omega
  have HV := Lib.hid (fun w' (hn : New w w') => (hv.sees (by omega)).new hn)
  have HV2 := Lib.hid (fun w' (hn : New w w') => (hv2.sees (by omega)).new hn)
  have HW1 := Lib.hid (fun w' (hn : New w w') => write_all (HV.out w' hn) m2 (by omega) (by omega))
  have HW2 := Lib.hid (fun w' (hn : New w w') => write_all (HV2.out w' hn) n2 (by omega) (by omega))
  rw [writeT, if_pos he, he] at HW1
  rw [writeT, if_pos hf, hf] at HW2
  have hml := (may_of he).2
  have hmm := (may_of hf).2
  have HMA := Lib.hid (show manyL [lst (x :: l ++ m) false] ≤ 2000000 by rw [manyL, manyL, lst, Dat.many, manyL_append]; omega)
  have HMB := Lib.hid (show manyL (lst [sym quoteT, x] false :: l) ≤ 2000000 by rw [manyL] at hml ⊢; rw [lst, Dat.many, manyL, manyL, manyL, sym, Dat.many, manyL]; omega)
  generalize textW (x :: l) = T1 at *
  generalize textW m = T2 at *
  have hq1 : ((T1.size : Int) + T2.size) ≤ 60000 := by omega
  have hq2 : decide (60000 < T1.size + T2.size) = false := decide_eq_false (by omega)
  have hq3 : ¬ (60000 : Int) < (T1.size : Int) + T2.size := by omega
  have H1 := Lib.hid h1
  have H2 := Lib.hid h2
  have H3 := Lib.hid h3
  unfold RdNo s1T at H1
  unfold RdNo s2T at H2
  unfold RdNo s3T at H3
  clear h hh2 h1 h2 h3 hd hd2 hv hv2 m1 m2 m3 m4 n1 n2 n3 n4 he hf hlong hml hmm
  go_enter Try.func8, Try.ntmps8
  go_wp2_with fail
  refine (works_calls _).mono ?_
  rintro e w1 ⟨rfl, hu1⟩
  have HU1 := Lib.hid hu1
  clear hu1
  go_wp2_with fail
  refine (HMU.out _ HU1.out).mono ?_
  rintro e w2 ⟨rfl, hu2⟩
  have HU2 := Lib.hid (HU1.out.trans hu2)
  clear hu2
  go_wp2_with fail
  refine (HMU2.out _ HU2.out).mono ?_
  rintro e w3 ⟨rfl, hu3⟩
  have HU3 := Lib.hid (HU2.out.trans hu3)
  clear hu3
  go_wp2_with fail
  refine (HW1.out _ HU3.out).mono ?_
  rintro e w4 ⟨rfl, hu4⟩
  have HU4 := Lib.hid (HU3.out.trans hu4)
  clear hu4
  go_wp2_with fail
  refine (HW2.out _ HU4.out).mono ?_
  rintro e w5 ⟨rfl, hu5⟩
  have HU5 := Lib.hid (HU4.out.trans hu5)
  clear hu5
  go_wp2_with fail
  refine (H1.out _).mono ?_
  rintro e w6 ⟨rfl, hu6⟩
  have HU6 := Lib.hid (HU5.out.trans hu6)
  clear hu6
  go_wp2_with fail
  refine (H2.out _).mono ?_
  rintro e w7 ⟨rfl, hu7⟩
  have HU7 := Lib.hid (HU6.out.trans hu7)
  have HU8 := HU7
  clear hu7
  go_wp2_with fail
  refine (H3.out _).mono ?_
  rintro e w9 ⟨rfl, hu9⟩
  have HU9 := Lib.hid (HU8.out.trans hu9)
  clear hu9
  go_wp2_with fail
  go_ret
  exact ⟨rfl, HU9.out⟩
set_option maxHeartbeats 8000000 in
set_option maxRecDepth 20000 in
theorem tails_62_no_62 (v v2 : Value) (x : Dat) (l m : List Dat) (w : World) (hv : SeesB w v (x :: l)) (hv2 : SeesB w v2 m) (h : ¬ leftL (x :: l) 200000 0 < 0) (hh2 : ¬ leftL m 200000 0 < 0) (he : writeE (x :: l) = 0) (hf : writeE m = 0) (hlong : (textW (x :: l)).size + (textW m).size ≤ 60000) (pl1 : Int) (h1 : RdNo (s1T (textW (x :: l)) (textW m)) 62 pl1) (er2 pl2 : Int) (hr2 : (er2 == 0) = false) (h2 : RdNo (s2T (textW (x :: l)) (textW m)) er2 pl2) (pl3 : Int) (h3 : RdNo (s3T (textW (x :: l))) 62 pl3) : Calls Try.prog 8 #[v, v2] w fun e w' => e = .returned (.bool true) ∧ New w w' := by
  obtain ⟨m1, m2, m3, m4⟩ := much_not h
  obtain ⟨n1, n2, n3, n4⟩ := much_not hh2
  obtain ⟨es, hes, hsn, -⟩ := hv.inv
  obtain ⟨A, c, hvv⟩ := hsn.form
  have hll : es.length = l.length + 1 := by have := congrArg List.length hes; simp at this; omega
  rw [hll] at hvv
  subst hvv
  clear hes hsn hll
  have HMU := Lib.hid (fun w' (hn : New w w') => much_calls (x :: l) _ w' (hv.new hn))
  have HMU2 := Lib.hid (fun w' (hn : New w w') => much_calls m v2 w' (hv2.new hn))
  have hd : decide (leftL (x :: l) 200000 0 < 0) = false := decide_eq_false h
  have hd2 : decide (leftL m 200000 0 < 0) = false := decide_eq_false hh2
  rw [hd] at HMU
  rw [hd2] at HMU2
  have hle : (((l.length + 1 : Nat) : Int) == 0) = false := by simp; omega
  have hlp : (0 : Int) < ((l.length + 1 : Nat) : Int) := by omega
  have HV := Lib.hid (fun w' (hn : New w w') => (hv.sees (by omega)).new hn)
  have HV2 := Lib.hid (fun w' (hn : New w w') => (hv2.sees (by omega)).new hn)
  have HW1 := Lib.hid (fun w' (hn : New w w') => write_all (HV.out w' hn) m2 (by omega) (by omega))
  have HW2 := Lib.hid (fun w' (hn : New w w') => write_all (HV2.out w' hn) n2 (by omega) (by omega))
  rw [writeT, if_pos he, he] at HW1
  rw [writeT, if_pos hf, hf] at HW2
  have hml := (may_of he).2
  have hmm := (may_of hf).2
  have HMA := Lib.hid (show manyL [lst (x :: l ++ m) false] ≤ 2000000 by rw [manyL, manyL, lst, Dat.many, manyL_append]; omega)
  have HMB := Lib.hid (show manyL (lst [sym quoteT, x] false :: l) ≤ 2000000 by rw [manyL] at hml ⊢; rw [lst, Dat.many, manyL, manyL, manyL, sym, Dat.many, manyL]; omega)
  generalize textW (x :: l) = T1 at *
  generalize textW m = T2 at *
  have hq1 : ((T1.size : Int) + T2.size) ≤ 60000 := by omega
  have hq2 : decide (60000 < T1.size + T2.size) = false := decide_eq_false (by omega)
  have hq3 : ¬ (60000 : Int) < (T1.size : Int) + T2.size := by omega
  have H1 := Lib.hid h1
  have H2 := Lib.hid h2
  have H3 := Lib.hid h3
  unfold RdNo s1T at H1
  unfold RdNo s2T at H2
  unfold RdNo s3T at H3
  clear h hh2 h1 h2 h3 hd hd2 hv hv2 m1 m2 m3 m4 n1 n2 n3 n4 he hf hlong hml hmm
  go_enter Try.func8, Try.ntmps8
  go_wp2_with fail
  refine (works_calls _).mono ?_
  rintro e w1 ⟨rfl, hu1⟩
  have HU1 := Lib.hid hu1
  clear hu1
  go_wp2_with fail
  refine (HMU.out _ HU1.out).mono ?_
  rintro e w2 ⟨rfl, hu2⟩
  have HU2 := Lib.hid (HU1.out.trans hu2)
  clear hu2
  go_wp2_with fail
  refine (HMU2.out _ HU2.out).mono ?_
  rintro e w3 ⟨rfl, hu3⟩
  have HU3 := Lib.hid (HU2.out.trans hu3)
  clear hu3
  go_wp2_with fail
  refine (HW1.out _ HU3.out).mono ?_
  rintro e w4 ⟨rfl, hu4⟩
  have HU4 := Lib.hid (HU3.out.trans hu4)
  clear hu4
  go_wp2_with fail
  refine (HW2.out _ HU4.out).mono ?_
  rintro e w5 ⟨rfl, hu5⟩
  have HU5 := Lib.hid (HU4.out.trans hu5)
  clear hu5
  go_wp2_with fail
  refine (H1.out _).mono ?_
  rintro e w6 ⟨rfl, hu6⟩
  have HU6 := Lib.hid (HU5.out.trans hu6)
  clear hu6
  go_wp2_with fail
  refine (H2.out _).mono ?_
  rintro e w7 ⟨rfl, hu7⟩
  have HU7 := Lib.hid (HU6.out.trans hu7)
  have HU8 := HU7
  clear hu7
  go_wp2_with fail
  refine (H3.out _).mono ?_
  rintro e w9 ⟨rfl, hu9⟩
  have HU9 := Lib.hid (HU8.out.trans hu9)
  clear hu9
  go_wp2_with fail
  go_ret
  exact ⟨rfl, HU9.out⟩
end Go.Proofs.Ytnnjhafjcdjobaa
