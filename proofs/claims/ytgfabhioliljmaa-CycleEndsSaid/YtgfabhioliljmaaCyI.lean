import Derived.Test.YtgfabhioliljmaaCyH
namespace Go.Proofs.Ytgfabhioliljmaa
open Go.RowKit
attribute [local go_sem high] eq27

theorem eq34 (d : Nat) (w : World) (x0 y0 x1 y1 x2 y2 x3 y3 : Int) :
    (Op.equalIn (d + 2) 34 (.agg #[.int .u8 x0, .int .i64 x1, .int .i64 x2, .int .i64 x3]) (.agg #[.int .u8 y0, .int .i64 y1, .int .i64 y2, .int .i64 y3])).run Try.prog w = .ok (x0 == y0 && (x1 == y1 && (x2 == y2 && x3 == y3))) w := by
  refine sq_struct Try.underlying34 (by kernel_rfl) ?_
  refine sq_more (by rfl) (by go_simp; rfl) (by go_simp; rfl) (by go_simp) ?_
  refine sq_more (by rfl) (by go_simp; rfl) (by go_simp; rfl) (by go_simp) ?_
  refine sq_more (by rfl) (by go_simp; rfl) (by go_simp; rfl) (by go_simp) ?_
  exact sq_one (by rfl) (by go_simp; rfl) (by go_simp; rfl) (by go_simp)
attribute [local go_sem high] eq34

theorem halloc {w : World} {g : Nat} {o : Obj} (h : w.heap[g]? = some o) (o1 : Obj) : (w.alloc o1).heap[g]? = some o :=
  (Below.heap_alloc _ _ _ (Array.getElem?_eq_some_iff.1 h).1).trans h

theorem next_at (c : Cyc) (r : Aro) (hph : 0 ≤ c.ph) (d : Doo) (hd : nextD c r = d) (w : World) :
    Calls Try.prog 9 #[.agg #[.int .u8 c.ph, .int .i64 c.g, .int .i64 c.s, .int .i64 c.f, .int .i64 c.b, .bool c.a], .agg #[.int .i64 r.cells, .int .i64 r.globals, .int .i64 r.thread, .bool r.still, .bool r.told, .bool r.grey]] w fun e w' => e = .returned (.agg #[.int .u8 d.w, .int .i64 d.g, .int .i64 d.t, .int .i64 d.c]) ∧ New w w' := by
  subst hd; exact next_calls c r hph w
theorem step_at (c : Cyc) (r : Aro) (back : Bool) (hph : 0 ≤ c.ph) (d : Cyc × Int) (hd : stepC c r back = d) (w : World) :
    Calls Try.prog 10 #[.agg #[.int .u8 c.ph, .int .i64 c.g, .int .i64 c.s, .int .i64 c.f, .int .i64 c.b, .bool c.a], .agg #[.int .i64 r.cells, .int .i64 r.globals, .int .i64 r.thread, .bool r.still, .bool r.told, .bool r.grey], .bool back] w fun e w' => e = .returned (.tuple #[.agg #[.int .u8 d.1.ph, .int .i64 d.1.g, .int .i64 d.1.s, .int .i64 d.1.f, .int .i64 d.1.b, .bool d.1.a], .int .i64 d.2]) ∧ New w w' := by
  subst hd; exact step_calls c r back hph w
theorem begin_at (c : Cyc) (d : Cyc × Int) (hd : beginC c = d) (w : World) :
    Calls Try.prog 7 #[.agg #[.int .u8 c.ph, .int .i64 c.g, .int .i64 c.s, .int .i64 c.f, .int .i64 c.b, .bool c.a]] w fun e w' => e = .returned (.tuple #[.agg #[.int .u8 d.1.ph, .int .i64 d.1.g, .int .i64 d.1.s, .int .i64 d.1.f, .int .i64 d.1.b, .bool d.1.a], .int .i64 d.2]) ∧ New w w' := by
  subst hd; exact begin_calls c w
theorem wk0 (w : World) : Calls Try.prog 7 #[.agg #[.int .u8 0, .int .i64 0, .int .i64 0, .int .i64 0, .int .i64 0, .bool false]] w fun e w' => e = .returned (.tuple #[.agg #[.int .u8 0, .int .i64 0, .int .i64 0, .int .i64 0, .int .i64 0, .bool true], .int .i64 0]) ∧ New w w' := begin_at ⟨0, 0, 0, 0, 0, false⟩ (⟨0, 0, 0, 0, 0, true⟩, 0) (by decide) w
theorem wk1 (w : World) : Calls Try.prog 7 #[.agg #[.int .u8 0, .int .i64 0, .int .i64 0, .int .i64 0, .int .i64 0, .bool true]] w fun e w' => e = .returned (.tuple #[.agg #[.int .u8 0, .int .i64 0, .int .i64 0, .int .i64 0, .int .i64 0, .bool false], .int .i64 170]) ∧ New w w' := begin_at ⟨0, 0, 0, 0, 0, true⟩ (⟨0, 0, 0, 0, 0, false⟩, 170) (by decide) w
theorem wk2 (w : World) : Calls Try.prog 9 #[.agg #[.int .u8 0, .int .i64 0, .int .i64 0, .int .i64 0, .int .i64 0, .bool true], .agg #[.int .i64 0, .int .i64 0, .int .i64 0, .bool false, .bool false, .bool false]] w fun e w' => e = .returned (.agg #[.int .u8 18, .int .i64 0, .int .i64 0, .int .i64 0]) ∧ New w w' := next_at ⟨0, 0, 0, 0, 0, true⟩ ⟨0, 0, 0, false, false, false⟩ (by decide) ⟨18, 0, 0, 0⟩ rfl w
theorem wk3 (w : World) : Calls Try.prog 10 #[.agg #[.int .u8 0, .int .i64 0, .int .i64 0, .int .i64 0, .int .i64 0, .bool true], .agg #[.int .i64 0, .int .i64 0, .int .i64 0, .bool false, .bool false, .bool false], .bool false] w fun e w' => e = .returned (.tuple #[.agg #[.int .u8 1, .int .i64 0, .int .i64 0, .int .i64 0, .int .i64 1, .bool false], .int .i64 0]) ∧ New w w' := step_at ⟨0, 0, 0, 0, 0, true⟩ ⟨0, 0, 0, false, false, false⟩ false (by decide) (⟨1, 0, 0, 0, 1, false⟩, 0) (by kernel_rfl) w
theorem wk4 (w : World) : Calls Try.prog 9 #[.agg #[.int .u8 0, .int .i64 0, .int .i64 0, .int .i64 0, .int .i64 0, .bool false], .agg #[.int .i64 0, .int .i64 0, .int .i64 0, .bool false, .bool false, .bool false]] w fun e w' => e = .returned (.agg #[.int .u8 0, .int .i64 0, .int .i64 0, .int .i64 0]) ∧ New w w' := next_at ⟨0, 0, 0, 0, 0, false⟩ ⟨0, 0, 0, false, false, false⟩ (by decide) ⟨0, 0, 0, 0⟩ rfl w
theorem wk5 (w : World) : Calls Try.prog 10 #[.agg #[.int .u8 0, .int .i64 0, .int .i64 0, .int .i64 0, .int .i64 0, .bool false], .agg #[.int .i64 0, .int .i64 0, .int .i64 0, .bool false, .bool false, .bool false], .bool false] w fun e w' => e = .returned (.tuple #[.agg #[.int .u8 0, .int .i64 0, .int .i64 0, .int .i64 0, .int .i64 0, .bool false], .int .i64 170]) ∧ New w w' := step_at ⟨0, 0, 0, 0, 0, false⟩ ⟨0, 0, 0, false, false, false⟩ false (by decide) (⟨0, 0, 0, 0, 0, false⟩, 170) (by kernel_rfl) w
theorem wk6 (w : World) : Calls Try.prog 10 #[.agg #[.int .u8 3, .int .i64 0, .int .i64 1, .int .i64 1, .int .i64 0, .bool false], .agg #[.int .i64 2, .int .i64 0, .int .i64 0, .bool false, .bool false, .bool false], .bool true] w fun e w' => e = .returned (.tuple #[.agg #[.int .u8 3, .int .i64 0, .int .i64 2, .int .i64 2, .int .i64 0, .bool false], .int .i64 0]) ∧ New w w' := step_at ⟨3, 0, 1, 1, 0, false⟩ ⟨2, 0, 0, false, false, false⟩ true (by decide) (⟨3, 0, 2, 2, 0, false⟩, 0) (by kernel_rfl) w

set_option maxRecDepth 100000 in
set_option maxHeartbeats 2000000 in
theorem works_calls (w : World) : Calls Try.prog 6 #[] w fun e w' => e = .returned (.bool true) ∧ New w w' := by
  go_enter Try.func6, Try.ntmps6
  go_wp2_with fail
  refine (wk0 _).mono ?_
  rintro e w1 ⟨rfl, hu⟩
  have HN := Lib.hid hu
  clear hu
  go_wp2_with fail
  refine (wk1 _).mono ?_
  rintro e w2 ⟨rfl, hu⟩
  have hn := Upd.trans (Upd.alloc HN.out (.cells #[.int .u8 0, .int .i64 0, .int .i64 0, .int .i64 0, .int .i64 0, .bool true] 27)) hu
  clear HN
  have HN := Lib.hid hn
  clear hn
  have h0 := hu.heap (heap_alloc_new w1 (.cells #[.int .u8 0, .int .i64 0, .int .i64 0, .int .i64 0, .int .i64 0, .bool true] 27)) (fun x => x)
  have H0 := Lib.hid h0
  clear h0
  obtain ⟨kk0, kk1, kk2, kk3, kk4, kk5, -⟩ := blk6f H0.out
  have l1 := (Array.getElem?_eq_some_iff.1 H0.out).1
  clear hu
  go_wp2_with fail
  refine (wk2 _).mono ?_
  rintro e w3 ⟨rfl, hu⟩
  have hn := Upd.trans (Upd.alloc HN.out (.cells #[.int .u8 0, .int .i64 0, .int .i64 0, .int .i64 0, .int .i64 0, .bool false] 27)) hu
  clear HN
  have HN := Lib.hid hn
  clear hn
  have h0 := hu.heap (halloc H0.out (.cells #[.int .u8 0, .int .i64 0, .int .i64 0, .int .i64 0, .int .i64 0, .bool false] 27)) (fun x => x)
  clear H0
  have H0 := Lib.hid h0
  clear h0
  have h1 := hu.heap (heap_alloc_new w2 (.cells #[.int .u8 0, .int .i64 0, .int .i64 0, .int .i64 0, .int .i64 0, .bool false] 27)) (fun x => x)
  have H1 := Lib.hid h1
  clear h1
  clear kk0 kk1 kk2 kk3 kk4 kk5
  obtain ⟨kk0, kk1, kk2, kk3, kk4, kk5, -⟩ := blk6f H0.out
  have l2 := (Array.getElem?_eq_some_iff.1 H0.out).1
  clear hu
  go_wp2_with fail
  refine (wk3 _).mono ?_
  rintro e w4 ⟨rfl, hu⟩
  have hn := Upd.trans (Upd.alloc HN.out (.cells #[.int .u8 18, .int .i64 0, .int .i64 0, .int .i64 0] 34)) hu
  clear HN
  have HN := Lib.hid hn
  clear hn
  have h0 := hu.heap (halloc H0.out (.cells #[.int .u8 18, .int .i64 0, .int .i64 0, .int .i64 0] 34)) (fun x => x)
  clear H0
  have H0 := Lib.hid h0
  clear h0
  have h1 := hu.heap (halloc H1.out (.cells #[.int .u8 18, .int .i64 0, .int .i64 0, .int .i64 0] 34)) (fun x => x)
  clear H1
  have H1 := Lib.hid h1
  clear h1
  have h2 := hu.heap (heap_alloc_new w3 (.cells #[.int .u8 18, .int .i64 0, .int .i64 0, .int .i64 0] 34)) (fun x => x)
  have H2 := Lib.hid h2
  clear h2
  clear kk0 kk1 kk2 kk3 kk4 kk5
  clear hu
  go_wp2_with fail
  refine (wk4 _).mono ?_
  rintro e w5 ⟨rfl, hu⟩
  have hn := Upd.trans (Upd.alloc HN.out (.cells #[.int .u8 1, .int .i64 0, .int .i64 0, .int .i64 0, .int .i64 1, .bool false] 27)) hu
  clear HN
  have HN := Lib.hid hn
  clear hn
  have h0 := hu.heap (halloc H0.out (.cells #[.int .u8 1, .int .i64 0, .int .i64 0, .int .i64 0, .int .i64 1, .bool false] 27)) (fun x => x)
  clear H0
  have H0 := Lib.hid h0
  clear h0
  have h1 := hu.heap (halloc H1.out (.cells #[.int .u8 1, .int .i64 0, .int .i64 0, .int .i64 0, .int .i64 1, .bool false] 27)) (fun x => x)
  clear H1
  have H1 := Lib.hid h1
  clear h1
  have h2 := hu.heap (halloc H2.out (.cells #[.int .u8 1, .int .i64 0, .int .i64 0, .int .i64 0, .int .i64 1, .bool false] 27)) (fun x => x)
  clear H2
  have H2 := Lib.hid h2
  clear h2
  have h3 := hu.heap (heap_alloc_new w4 (.cells #[.int .u8 1, .int .i64 0, .int .i64 0, .int .i64 0, .int .i64 1, .bool false] 27)) (fun x => x)
  have H3 := Lib.hid h3
  clear h3
  clear hu
  go_wp2_with fail
  refine (wk5 _).mono ?_
  rintro e w6 ⟨rfl, hu⟩
  have hn := Upd.trans (Upd.alloc HN.out (.cells #[.int .u8 0, .int .i64 0, .int .i64 0, .int .i64 0] 34)) hu
  clear HN
  have HN := Lib.hid hn
  clear hn
  have h0 := hu.heap (halloc H0.out (.cells #[.int .u8 0, .int .i64 0, .int .i64 0, .int .i64 0] 34)) (fun x => x)
  clear H0
  have H0 := Lib.hid h0
  clear h0
  have h1 := hu.heap (halloc H1.out (.cells #[.int .u8 0, .int .i64 0, .int .i64 0, .int .i64 0] 34)) (fun x => x)
  clear H1
  have H1 := Lib.hid h1
  clear h1
  have h2 := hu.heap (halloc H2.out (.cells #[.int .u8 0, .int .i64 0, .int .i64 0, .int .i64 0] 34)) (fun x => x)
  clear H2
  have H2 := Lib.hid h2
  clear h2
  have h3 := hu.heap (halloc H3.out (.cells #[.int .u8 0, .int .i64 0, .int .i64 0, .int .i64 0] 34)) (fun x => x)
  clear H3
  have H3 := Lib.hid h3
  clear h3
  have h4 := hu.heap (heap_alloc_new w5 (.cells #[.int .u8 0, .int .i64 0, .int .i64 0, .int .i64 0] 34)) (fun x => x)
  have H4 := Lib.hid h4
  clear h4
  clear hu
  go_wp2_with fail
  refine (wk6 _).mono ?_
  rintro e w7 ⟨rfl, hu⟩
  have hn := Upd.trans (Upd.alloc HN.out (.cells #[.int .u8 0, .int .i64 0, .int .i64 0, .int .i64 0, .int .i64 0, .bool false] 27)) hu
  clear HN
  have HN := Lib.hid hn
  clear hn
  have h0 := hu.heap (halloc H0.out (.cells #[.int .u8 0, .int .i64 0, .int .i64 0, .int .i64 0, .int .i64 0, .bool false] 27)) (fun x => x)
  clear H0
  have H0 := Lib.hid h0
  clear h0
  have h1 := hu.heap (halloc H1.out (.cells #[.int .u8 0, .int .i64 0, .int .i64 0, .int .i64 0, .int .i64 0, .bool false] 27)) (fun x => x)
  clear H1
  have H1 := Lib.hid h1
  clear h1
  have h2 := hu.heap (halloc H2.out (.cells #[.int .u8 0, .int .i64 0, .int .i64 0, .int .i64 0, .int .i64 0, .bool false] 27)) (fun x => x)
  clear H2
  have H2 := Lib.hid h2
  clear h2
  have h3 := hu.heap (halloc H3.out (.cells #[.int .u8 0, .int .i64 0, .int .i64 0, .int .i64 0, .int .i64 0, .bool false] 27)) (fun x => x)
  clear H3
  have H3 := Lib.hid h3
  clear h3
  have h4 := hu.heap (halloc H4.out (.cells #[.int .u8 0, .int .i64 0, .int .i64 0, .int .i64 0, .int .i64 0, .bool false] 27)) (fun x => x)
  clear H4
  have H4 := Lib.hid h4
  clear h4
  have h5 := hu.heap (heap_alloc_new w6 (.cells #[.int .u8 0, .int .i64 0, .int .i64 0, .int .i64 0, .int .i64 0, .bool false] 27)) (fun x => x)
  have H5 := Lib.hid h5
  clear h5
  clear hu
  go_wp2_with fail
  refine (most_calls 4 1 2 _).mono ?_
  rintro e w8 ⟨rfl, hu⟩
  have hn := Upd.trans (Upd.alloc HN.out (.cells #[.int .u8 3, .int .i64 0, .int .i64 2, .int .i64 2, .int .i64 0, .bool false] 27)) hu
  have h0 := hu.heap (halloc H0.out (.cells #[.int .u8 3, .int .i64 0, .int .i64 2, .int .i64 2, .int .i64 0, .bool false] 27)) (fun x => x)
  have h1 := hu.heap (halloc H1.out (.cells #[.int .u8 3, .int .i64 0, .int .i64 2, .int .i64 2, .int .i64 0, .bool false] 27)) (fun x => x)
  have h2 := hu.heap (halloc H2.out (.cells #[.int .u8 3, .int .i64 0, .int .i64 2, .int .i64 2, .int .i64 0, .bool false] 27)) (fun x => x)
  have h3 := hu.heap (halloc H3.out (.cells #[.int .u8 3, .int .i64 0, .int .i64 2, .int .i64 2, .int .i64 0, .bool false] 27)) (fun x => x)
  have h4 := hu.heap (halloc H4.out (.cells #[.int .u8 3, .int .i64 0, .int .i64 2, .int .i64 2, .int .i64 0, .bool false] 27)) (fun x => x)
  have h5 := hu.heap (halloc H5.out (.cells #[.int .u8 3, .int .i64 0, .int .i64 2, .int .i64 2, .int .i64 0, .bool false] 27)) (fun x => x)
  have h6 := hu.heap (heap_alloc_new w7 (.cells #[.int .u8 3, .int .i64 0, .int .i64 2, .int .i64 2, .int .i64 0, .bool false] 27)) (fun x => x)
  clear hu HN H0 H1 H2 H3 H4 H5
  obtain ⟨a00, a01, a02, a03, a04, a05, -⟩ := blk6f h0
  obtain ⟨a30, a31, a32, a33, a34, a35, -⟩ := blk6f h3
  obtain ⟨a60, a61, a62, a63, a64, a65, -⟩ := blk6f h6
  obtain ⟨a20, a21, a22, a23, -⟩ := blk4f h2
  obtain ⟨a40, a41, a42, a43, -⟩ := blk4f h4
  clear h0 h1 h2 h3 h4 h5 h6
  have HN := Lib.hid hn
  clear hn
  rw [show mostI 4 1 2 = 14 from by decide]
  go_wp2
  go_ret
  exact ⟨rfl, HN.out⟩

set_option maxHeartbeats 400000 in
theorem cyclenumbers_calls (w : World) : Calls Try.prog 3 #[] w fun e w' => e = .returned (.bool true) ∧ Below w.heap.size w w' := by
  go_enter Try.func3, Try.ntmps3
  go_wp2_with (go_at_call 6; refine (works_calls _).mono ?_; rintro e w1 ⟨rfl, hu⟩)
  have HU := Lib.hid (hu.alloc (.cells #[.int .u8 18, .int .u8 19, .int .u8 20, .int .u8 21, .int .u8 22, .int .u8 23, .int .u8 24, .int .u8 25] 23))
  have hc : ∀ k : Nat, k < 8 → (w1.alloc (.cells #[.int .u8 18, .int .u8 19, .int .u8 20, .int .u8 21, .int .u8 22, .int .u8 23, .int .u8 24, .int .u8 25] 23)).cell? ⟨w1.heap.size, k, none⟩ = some (.int .u8 (18 + k)) := by
    intro k hk
    rcases (by omega : k = 0 ∨ k = 1 ∨ k = 2 ∨ k = 3 ∨ k = 4 ∨ k = 5 ∨ k = 6 ∨ k = 7) with rfl | rfl | rfl | rfl | rfl | rfl | rfl | rfl <;> simp
  have Hc := Lib.hid hc
  clear hc hu
  generalize w1.heap.size = b at *
  generalize w1.alloc (.cells #[.int .u8 18, .int .u8 19, .int .u8 20, .int .u8 21, .int .u8 22, .int .u8 23, .int .u8 24, .int .u8 25] 23) = W at *
  go_loopw [3] (fun i wr => ∃ k : Nat, k ≤ 7 ∧ i = .int .i64 k ∧ ∃ n, wr = W.drewN n) (fun i _ => 7 - (intOf i).toNat)
  case atStart => exact ⟨0, by omega, rfl, 0, rfl⟩
  case round =>
    obtain ⟨k, hk, rfl, n, rfl⟩ := hrel
    by_cases hlt : k < 7
    · have c0 := Hc.out k (by omega)
      have c1 := Hc.out (k + 1) (by omega)
      have i0 : (0 : Int) ≤ k := by omega
      have i1 : (k : Int) < 8 := by omega
      have i2 : (k : Int) + 1 < 8 := by omega
      go_wp2
      go_quiet (fail)
      go_wp2
      go_roundw
      case rel => exact ⟨k + 1, by omega, by go_num, _, rfl⟩
      case measure => simp [intOf]; omega
    · have hk7 : k = 7 := by omega
      subst hk7
      go_wp2
      go_ret
      exact ⟨rfl, (HU.out.drewN n).to_below' (fun _ x => x.elim)⟩
end Go.Proofs.Ytgfabhioliljmaa
