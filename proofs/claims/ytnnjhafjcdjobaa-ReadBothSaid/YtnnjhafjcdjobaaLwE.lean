/- Read: the law ReadTails, walked. -/
import Derived.Test.YtnnjhafjcdjobaaLwD
import Derived.Laws.IdiomStrings
namespace Go.Proofs.Ytnnjhafjcdjobaa
open Go.RowKit
set_option linter.unusedVariables false
set_option linter.unusedSimpArgs false

theorem outR_calls {s : ByteArray} (hs : s.size ≤ 65536) (h0 : (toks s 0).2.1 = 0) {v : List Dat} (h : OutR (readP (toks s 0).1) v) :
    (∀ w, Calls Try.prog 16 #[.string s] w fun e w' => ∃ A c bs, e = .returned (.tuple #[.slice A v.length c, .int .i64 0, .int .i64 0]) ∧ New w w' ∧ Own w' w.heap.size (.slice A v.length c) v bs ∧ bs.Nodup) ∨
    (∃ (er : Int) (pl : Nat), (er = 61 ∨ er = 62) ∧ ∀ w, Calls Try.prog 16 #[.string s] w fun e w' => e = .returned (.tuple #[.slice none 0 0, .int .i64 er, .int .i64 pl]) ∧ New w w') := by
  have h1 := tokErr_of hs h0
  have h2 : Small s := by unfold Small; omega
  rcases h with ⟨i, m, hr⟩ | ⟨e, a, hr, he⟩
  · exact .inl fun w => read_is h2 h1 hr w
  · exact .inr ⟨e, a, he, fun w => read_isnt h2 h1 hr w⟩
theorem outR_got {s : ByteArray} (hs : s.size ≤ 65536) (h0 : (toks s 0).2.1 = 0) {v : List Dat} (h : OutR (readP (toks s 0).1) v) : (∃ i m, readP (toks s 0).1 = .ok v i m) → manyL v ≤ 10000 := fun ⟨i, m, hr⟩ =>
  (read_got (by unfold Small; omega) (tokErr_of hs h0) hr).2.2.1
set_option maxHeartbeats 8000000 in
set_option maxRecDepth 20000 in
theorem tails_much (v v2 : Value) (l m : List Dat) (w : World) (hv : SeesB w v l) (hv2 : SeesB w v2 m) (h : leftL l 200000 0 < 0) : Calls Try.prog 8 #[v, v2] w fun e w' => e = .returned (.bool true) ∧ New w w' := by
  have HMU := Lib.hid (fun w' (hn : New w w') => much_calls l _ w' (hv.new hn))
  have HMU2 := Lib.hid (fun w' (hn : New w w') => much_calls m v2 w' (hv2.new hn))
  have hd : decide (leftL l 200000 0 < 0) = true := decide_eq_true h
  rw [hd] at HMU
  clear h hd hv hv2
  go_enter Try.func8, Try.ntmps8
  go_wp2_with fail
  refine (works_calls _).mono ?_
  rintro e w1 ⟨rfl, hu1⟩
  have HU1 := Lib.hid hu1
  clear hu1
  go_wp2_with fail
  refine (HMU.out _ HU1.out).mono ?_
  rintro e w2 ⟨rfl, hu2⟩
  have HU2 := Lib.hid (HU1.out.trans hu2)
  clear hu2
  go_wp2_with fail
  go_ret
  exact ⟨rfl, HU2.out⟩
set_option maxHeartbeats 8000000 in
set_option maxRecDepth 20000 in
theorem tails_much2 (v v2 : Value) (l m : List Dat) (w : World) (hv : SeesB w v l) (hv2 : SeesB w v2 m) (h : ¬ leftL l 200000 0 < 0) (h2 : leftL m 200000 0 < 0) : Calls Try.prog 8 #[v, v2] w fun e w' => e = .returned (.bool true) ∧ New w w' := by
  have HMU := Lib.hid (fun w' (hn : New w w') => much_calls l _ w' (hv.new hn))
  have HMU2 := Lib.hid (fun w' (hn : New w w') => much_calls m v2 w' (hv2.new hn))
  have hd : decide (leftL l 200000 0 < 0) = false := decide_eq_false h
  have hd2 : decide (leftL m 200000 0 < 0) = true := decide_eq_true h2
  rw [hd] at HMU
  rw [hd2] at HMU2
  clear h h2 hd hd2 hv hv2
  go_enter Try.func8, Try.ntmps8
  go_wp2_with fail
  refine (works_calls _).mono ?_
  rintro e w1 ⟨rfl, hu1⟩
  have HU1 := Lib.hid hu1
  clear hu1
  go_wp2_with fail
  refine (HMU.out _ HU1.out).mono ?_
  rintro e w2 ⟨rfl, hu2⟩
  have HU2 := Lib.hid (HU1.out.trans hu2)
  clear hu2
  go_wp2_with fail
  refine (HMU2.out _ HU2.out).mono ?_
  rintro e w3 ⟨rfl, hu3⟩
  have HU3 := Lib.hid (HU2.out.trans hu3)
  clear hu3
  go_wp2_with fail
  go_ret
  exact ⟨rfl, HU3.out⟩
set_option maxHeartbeats 8000000 in
set_option maxRecDepth 20000 in
theorem tails_nil (v v2 : Value) (l m : List Dat) (w : World) (hv : SeesB w v l) (hv2 : SeesB w v2 m) (h : ¬ leftL l 200000 0 < 0) (h2 : ¬ leftL m 200000 0 < 0) (hl : l.length = 0) : Calls Try.prog 8 #[v, v2] w fun e w' => e = .returned (.bool true) ∧ New w w' := by
  obtain ⟨es, hes, hsn, -⟩ := hv.inv
  obtain ⟨A, c, hvv⟩ := hsn.form
  have hll : es.length = l.length := by rw [hes, List.length_map]
  rw [hll] at hvv
  subst hvv
  clear hes hsn hll
  have HMU := Lib.hid (fun w' (hn : New w w') => much_calls l _ w' (hv.new hn))
  have HMU2 := Lib.hid (fun w' (hn : New w w') => much_calls m v2 w' (hv2.new hn))
  have hd : decide (leftL l 200000 0 < 0) = false := decide_eq_false h
  have hd2 : decide (leftL m 200000 0 < 0) = false := decide_eq_false h2
  rw [hd] at HMU
  rw [hd2] at HMU2
  have hle : ((l.length : Int) == 0) = true := by simp [hl]
  clear h h2 hd hd2 hv hv2 hl
  go_enter Try.func8, Try.ntmps8
  go_wp2_with fail
  refine (works_calls _).mono ?_
  rintro e w1 ⟨rfl, hu1⟩
  have HU1 := Lib.hid hu1
  clear hu1
  go_wp2_with fail
  refine (HMU.out _ HU1.out).mono ?_
  rintro e w2 ⟨rfl, hu2⟩
  have HU2 := Lib.hid (HU1.out.trans hu2)
  clear hu2
  go_wp2_with fail
  refine (HMU2.out _ HU2.out).mono ?_
  rintro e w3 ⟨rfl, hu3⟩
  have HU3 := Lib.hid (HU2.out.trans hu3)
  clear hu3
  go_wp2_with fail
  go_ret
  exact ⟨rfl, HU3.out⟩
set_option maxHeartbeats 8000000 in
set_option maxRecDepth 20000 in
theorem tails_e (v v2 : Value) (l m : List Dat) (w : World) (hv : SeesB w v l) (hv2 : SeesB w v2 m) (h : ¬ leftL l 200000 0 < 0) (h2 : ¬ leftL m 200000 0 < 0) (hl : ¬ l.length = 0) (he : writeE l ≠ 0) : Calls Try.prog 8 #[v, v2] w fun e w' => e = .returned (.bool true) ∧ New w w' := by
  obtain ⟨m1, m2, m3, m4⟩ := much_not h
  obtain ⟨n1, n2, n3, n4⟩ := much_not h2
  obtain ⟨es, hes, hsn, -⟩ := hv.inv
  obtain ⟨A, c, hvv⟩ := hsn.form
  have hll : es.length = l.length := by rw [hes, List.length_map]
  rw [hll] at hvv
  subst hvv
  clear hes hsn hll
  have HMU := Lib.hid (fun w' (hn : New w w') => much_calls l _ w' (hv.new hn))
  have HMU2 := Lib.hid (fun w' (hn : New w w') => much_calls m v2 w' (hv2.new hn))
  have hd : decide (leftL l 200000 0 < 0) = false := decide_eq_false h
  have hd2 : decide (leftL m 200000 0 < 0) = false := decide_eq_false h2
  rw [hd] at HMU
  rw [hd2] at HMU2
  have hle : ((l.length : Int) == 0) = false := by simpa using hl
  have hlp : (0 : Int) < l.length := by omega
  have HV := Lib.hid (fun w' (hn : New w w') => (hv.sees (by omega)).new hn)
  have HV2 := Lib.hid (fun w' (hn : New w w') => (hv2.sees (by omega)).new hn)
  have HW1 := Lib.hid (fun w' (hn : New w w') => write_all (HV.out w' hn) m2 (by omega) (by omega))
  have HW2 := Lib.hid (fun w' (hn : New w w') => write_all (HV2.out w' hn) n2 (by omega) (by omega))
  generalize writeT l = T1 at *
  generalize writeE l = E1 at *
  generalize writeT m = T2 at *
  generalize writeE m = E2 at *
  have he1 : (E1 != 0) = true := by simpa using he
  clear h h2 hd hd2 hv hv2 hl m1 m2 m3 m4 n1 n2 n3 n4 he
  go_enter Try.func8, Try.ntmps8
  go_wp2_with fail
  refine (works_calls _).mono ?_
  rintro e w1 ⟨rfl, hu1⟩
  have HU1 := Lib.hid hu1
  clear hu1
  go_wp2_with fail
  refine (HMU.out _ HU1.out).mono ?_
  rintro e w2 ⟨rfl, hu2⟩
  have HU2 := Lib.hid (HU1.out.trans hu2)
  clear hu2
  go_wp2_with fail
  refine (HMU2.out _ HU2.out).mono ?_
  rintro e w3 ⟨rfl, hu3⟩
  have HU3 := Lib.hid (HU2.out.trans hu3)
  clear hu3
  go_wp2_with fail
  refine (HW1.out _ HU3.out).mono ?_
  rintro e w4 ⟨rfl, hu4⟩
  have HU4 := Lib.hid (HU3.out.trans hu4)
  clear hu4
  go_wp2_with fail
  refine (HW2.out _ HU4.out).mono ?_
  rintro e w5 ⟨rfl, hu5⟩
  have HU5 := Lib.hid (HU4.out.trans hu5)
  clear hu5
  go_wp2_with fail
  go_ret
  exact ⟨rfl, HU5.out⟩
set_option maxHeartbeats 8000000 in
set_option maxRecDepth 20000 in
theorem tails_f (v v2 : Value) (l m : List Dat) (w : World) (hv : SeesB w v l) (hv2 : SeesB w v2 m) (h : ¬ leftL l 200000 0 < 0) (h2 : ¬ leftL m 200000 0 < 0) (hl : ¬ l.length = 0) (he : writeE l = 0) (hf : writeE m ≠ 0) : Calls Try.prog 8 #[v, v2] w fun e w' => e = .returned (.bool true) ∧ New w w' := by
  obtain ⟨m1, m2, m3, m4⟩ := much_not h
  obtain ⟨n1, n2, n3, n4⟩ := much_not h2
  obtain ⟨es, hes, hsn, -⟩ := hv.inv
  obtain ⟨A, c, hvv⟩ := hsn.form
  have hll : es.length = l.length := by rw [hes, List.length_map]
  rw [hll] at hvv
  subst hvv
  clear hes hsn hll
  have HMU := Lib.hid (fun w' (hn : New w w') => much_calls l _ w' (hv.new hn))
  have HMU2 := Lib.hid (fun w' (hn : New w w') => much_calls m v2 w' (hv2.new hn))
  have hd : decide (leftL l 200000 0 < 0) = false := decide_eq_false h
  have hd2 : decide (leftL m 200000 0 < 0) = false := decide_eq_false h2
  rw [hd] at HMU
  rw [hd2] at HMU2
  have hle : ((l.length : Int) == 0) = false := by simpa using hl
  have hlp : (0 : Int) < l.length := by omega
  have HV := Lib.hid (fun w' (hn : New w w') => (hv.sees (by omega)).new hn)
  have HV2 := Lib.hid (fun w' (hn : New w w') => (hv2.sees (by omega)).new hn)
  have HW1 := Lib.hid (fun w' (hn : New w w') => write_all (HV.out w' hn) m2 (by omega) (by omega))
  have HW2 := Lib.hid (fun w' (hn : New w w') => write_all (HV2.out w' hn) n2 (by omega) (by omega))
  rw [he] at HW1
  generalize writeT l = T1 at *
  generalize writeT m = T2 at *
  generalize writeE m = E2 at *
  have he1 : (E2 != 0) = true := by simpa using hf
  clear h h2 hd hd2 hv hv2 hl m1 m2 m3 m4 n1 n2 n3 n4 he hf
  go_enter Try.func8, Try.ntmps8
  go_wp2_with fail
  refine (works_calls _).mono ?_
  rintro e w1 ⟨rfl, hu1⟩
  have HU1 := Lib.hid hu1
  clear hu1
  go_wp2_with fail
  refine (HMU.out _ HU1.out).mono ?_
  rintro e w2 ⟨rfl, hu2⟩
  have HU2 := Lib.hid (HU1.out.trans hu2)
  clear hu2
  go_wp2_with fail
  refine (HMU2.out _ HU2.out).mono ?_
  rintro e w3 ⟨rfl, hu3⟩
  have HU3 := Lib.hid (HU2.out.trans hu3)
  clear hu3
  go_wp2_with fail
  refine (HW1.out _ HU3.out).mono ?_
  rintro e w4 ⟨rfl, hu4⟩
  have HU4 := Lib.hid (HU3.out.trans hu4)
  clear hu4
  go_wp2_with fail
  refine (HW2.out _ HU4.out).mono ?_
  rintro e w5 ⟨rfl, hu5⟩
  have HU5 := Lib.hid (HU4.out.trans hu5)
  clear hu5
  go_wp2_with fail
  go_ret
  exact ⟨rfl, HU5.out⟩
set_option maxHeartbeats 8000000 in
set_option maxRecDepth 20000 in
theorem tails_long (v v2 : Value) (l m : List Dat) (w : World) (hv : SeesB w v l) (hv2 : SeesB w v2 m) (h : ¬ leftL l 200000 0 < 0) (h2 : ¬ leftL m 200000 0 < 0) (hl : ¬ l.length = 0) (he : writeE l = 0) (hf : writeE m = 0) (hlong : 60000 < (textW l).size + (textW m).size) : Calls Try.prog 8 #[v, v2] w fun e w' => e = .returned (.bool true) ∧ New w w' := by
  obtain ⟨m1, m2, m3, m4⟩ := much_not h
  obtain ⟨n1, n2, n3, n4⟩ := much_not h2
  obtain ⟨es, hes, hsn, -⟩ := hv.inv
  obtain ⟨A, c, hvv⟩ := hsn.form
  have hll : es.length = l.length := by rw [hes, List.length_map]
  rw [hll] at hvv
  subst hvv
  clear hes hsn hll
  have HMU := Lib.hid (fun w' (hn : New w w') => much_calls l _ w' (hv.new hn))
  have HMU2 := Lib.hid (fun w' (hn : New w w') => much_calls m v2 w' (hv2.new hn))
  have hd : decide (leftL l 200000 0 < 0) = false := decide_eq_false h
  have hd2 : decide (leftL m 200000 0 < 0) = false := decide_eq_false h2
  rw [hd] at HMU
  rw [hd2] at HMU2
  have hle : ((l.length : Int) == 0) = false := by simpa using hl
  have hlp : (0 : Int) < l.length := by omega
  have HV := Lib.hid (fun w' (hn : New w w') => (hv.sees (by omega)).new hn)
  have HV2 := Lib.hid (fun w' (hn : New w w') => (hv2.sees (by omega)).new hn)
  have HW1 := Lib.hid (fun w' (hn : New w w') => write_all (HV.out w' hn) m2 (by omega) (by omega))
  have HW2 := Lib.hid (fun w' (hn : New w w') => write_all (HV2.out w' hn) n2 (by omega) (by omega))
  rw [writeT, if_pos he, he] at HW1
  rw [writeT, if_pos hf, hf] at HW2
  have s1 := text_small he
  have s2 := text_small hf
  generalize textW l = T1 at *
  generalize textW m = T2 at *
  have hq1 : ((T1.size : Int) + T2.size) ≤ 131072 := by omega
  have hq2 : decide (60000 < T1.size + T2.size) = true := decide_eq_true hlong
  have hq3 : (60000 : Int) < (T1.size : Int) + T2.size := by omega
  clear h h2 hd hd2 hv hv2 hl m1 m2 m3 m4 n1 n2 n3 n4 he hf s1 s2 hlong
  go_enter Try.func8, Try.ntmps8
  go_wp2_with fail
  refine (works_calls _).mono ?_
  rintro e w1 ⟨rfl, hu1⟩
  have HU1 := Lib.hid hu1
  clear hu1
  go_wp2_with fail
  refine (HMU.out _ HU1.out).mono ?_
  rintro e w2 ⟨rfl, hu2⟩
  have HU2 := Lib.hid (HU1.out.trans hu2)
  clear hu2
  go_wp2_with fail
  refine (HMU2.out _ HU2.out).mono ?_
  rintro e w3 ⟨rfl, hu3⟩
  have HU3 := Lib.hid (HU2.out.trans hu3)
  clear hu3
  go_wp2_with fail
  refine (HW1.out _ HU3.out).mono ?_
  rintro e w4 ⟨rfl, hu4⟩
  have HU4 := Lib.hid (HU3.out.trans hu4)
  clear hu4
  go_wp2_with fail
  refine (HW2.out _ HU4.out).mono ?_
  rintro e w5 ⟨rfl, hu5⟩
  have HU5 := Lib.hid (HU4.out.trans hu5)
  clear hu5
  go_wp2_with fail
  go_ret
  exact ⟨rfl, HU5.out⟩
end Go.Proofs.Ytnnjhafjcdjobaa
