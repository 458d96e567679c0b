import Derived.Test.YtgfabhioliljmaaCyE
namespace Go.Proofs.Ytgfabhioliljmaa
open Go.RowKit
attribute [local go_sem high] eq27


set_option maxHeartbeats 2000000 in
theorem rmay_calls (c : Cyc) (w : World) :
    Calls Try.prog 22 #[.agg #[.int .u8 c.ph, .int .i64 c.g, .int .i64 c.s, .int .i64 c.f, .int .i64 c.b, .bool c.a]] w fun e w' => e = .returned (.bool (mayB c)) ∧ New w w' := by
  by_cases hbad : c.bad
  · have hm : mayB c = false := by simp [mayB, hbad]
    rw [hm]
    clear hm
    obtain ⟨ph, g, s, f, b, a⟩ := c
    have hb : 3 < ph ∨ g < 0 ∨ s < 0 ∨ f < 0 ∨ b < 0 ∨ b = 9223372036854775807 ∨ s < f := hbad
    clear hbad
    go_enter Try.func22, Try.ntmps22
    go_wp2_with fail
    all_goals (go_ret; exact ⟨rfl, by repeat (with_reducible first | exact Upd.refl _ _ | refine Upd.alloc ?_ _)⟩)
  · obtain ⟨ph, g, s, f, b, a⟩ := c
    have hb : ¬ (3 < ph ∨ g < 0 ∨ s < 0 ∨ f < 0 ∨ b < 0 ∨ b = 9223372036854775807 ∨ s < f) := hbad
    have h1 : decide (3 < ph) = false := by rw [decide_eq_false_iff_not]; omega
    have h2 : decide (g < 0) = false := by rw [decide_eq_false_iff_not]; omega
    have h3 : decide (s < 0) = false := by rw [decide_eq_false_iff_not]; omega
    have h4 : decide (f < 0) = false := by rw [decide_eq_false_iff_not]; omega
    have h5 : decide (b < 0) = false := by rw [decide_eq_false_iff_not]; omega
    have h6 : (b == 9223372036854775807) = false := by rw [beq_eq_false_iff_ne]; omega
    have h7 : decide (s < f) = false := by rw [decide_eq_false_iff_not]; omega
    clear hb
    by_cases hz : a = true ∧ ph ≠ 0
    · obtain ⟨rfl, hz⟩ := hz
      have hm : mayB ⟨ph, g, s, f, b, true⟩ = false := by simp [mayB, hz]
      rw [hm]
      clear hm hbad
      have hzb : (ph != 0) = true := by rw [bne_iff_ne]; exact hz
      clear hz
      go_enter Try.func22, Try.ntmps22
      go_wp2_with fail
      go_ret
      exact ⟨rfl, by repeat (with_reducible first | exact Upd.refl _ _ | refine Upd.alloc ?_ _)⟩
    · have ha : (a && decide (ph ≠ 0)) = false := by cases a <;> simp_all
      have hm : mayB ⟨ph, g, s, f, b, a⟩ = (g == (trim ⟨ph, g, s, f, b, a⟩).g && (s == (trim ⟨ph, g, s, f, b, a⟩).s && f == (trim ⟨ph, g, s, f, b, a⟩).f)) := by
        simp only [mayB, hbad, ha, not_false_eq_true, decide_true, Bool.true_and, Bool.not_false]
      rw [hm]
      clear hm hbad ha
      have hzb : a = false ∨ (a = true ∧ ph = 0) := by cases a <;> simp_all
      clear hz
      by_cases p1 : ph = 1
      · subst p1
        have : a = false := by rcases hzb with h | ⟨_, h⟩; exact h; omega
        subst this
        clear hzb
        by_cases q : s = 0
        · subst q
          go_enter Try.func22, Try.ntmps22
          go_wp2_with fail
          go_ret
          exact ⟨ret_bool (by simp [trim]), by repeat (with_reducible first | exact Upd.refl _ _ | refine Upd.alloc ?_ _)⟩
        · have qb : (s == 0) = false := by rw [beq_eq_false_iff_ne]; exact q
          clear q
          go_enter Try.func22, Try.ntmps22
          go_wp2_with fail
          go_ret
          exact ⟨ret_bool (by simp [trim, qb]), by repeat (with_reducible first | exact Upd.refl _ _ | refine Upd.alloc ?_ _)⟩
      · have p1b : (ph != 1) = true := by rw [bne_iff_ne]; exact p1
        by_cases g0 : g = 0
        · subst g0
          by_cases p3 : ph = 3
          · subst p3
            have : a = false := by rcases hzb with h | ⟨_, h⟩; exact h; omega
            subst this
            clear hzb
            go_enter Try.func22, Try.ntmps22
            go_wp2_with fail
            go_ret
            exact ⟨ret_bool (by simp [trim]), by repeat (with_reducible first | exact Upd.refl _ _ | refine Upd.alloc ?_ _)⟩
          · have p3b : (ph == 3) = false := by rw [beq_eq_false_iff_ne]; exact p3
            by_cases q : s = 0
            · subst q
              rcases hzb with rfl | ⟨rfl, rfl⟩
              all_goals
                go_enter Try.func22, Try.ntmps22
                go_wp2_with fail
                go_ret
                exact ⟨ret_bool (by simp [trim, p1, p3]), by repeat (with_reducible first | exact Upd.refl _ _ | refine Upd.alloc ?_ _)⟩
            · have qb : (s == 0) = false := by rw [beq_eq_false_iff_ne]; exact q
              clear q
              rcases hzb with rfl | ⟨rfl, rfl⟩
              all_goals
                go_enter Try.func22, Try.ntmps22
                go_wp2_with fail
                go_ret
                exact ⟨ret_bool (by simp [trim, p1, p3, qb]), by repeat (with_reducible first | exact Upd.refl _ _ | refine Upd.alloc ?_ _)⟩
        · have gb : (g != 0) = true := by rw [bne_iff_ne]; exact g0
          have gb2 : (g == 0) = false := by rw [beq_eq_false_iff_ne]; exact g0
          rcases hzb with rfl | ⟨rfl, rfl⟩
          all_goals
            go_enter Try.func22, Try.ntmps22
            go_wp2_with fail
            go_ret
            exact ⟨ret_bool (by simp [trim, p1, gb2]), by repeat (with_reducible first | exact Upd.refl _ _ | refine Upd.alloc ?_ _)⟩

theorem rfits_calls (c : Cyc) (r : Aro) (w : World) :
    Calls Try.prog 26 #[.agg #[.int .u8 c.ph, .int .i64 c.g, .int .i64 c.s, .int .i64 c.f, .int .i64 c.b, .bool c.a], .agg #[.int .i64 r.cells, .int .i64 r.globals, .int .i64 r.thread, .bool r.still, .bool r.told, .bool r.grey]] w fun e w' => e = .returned (.bool (fitsA c r)) ∧ New w w' := by
  obtain ⟨ph, g, s, f, b, a⟩ := c
  obtain ⟨rc, rg, rt, rs, ro, ry⟩ := r
  by_cases h : 0 ≤ rc ∧ 0 ≤ rg ∧ 0 ≤ rt ∧ g ≤ rg
  · obtain ⟨q0, q1, q2, q3⟩ := h
    have hf : fitsA ⟨ph, g, s, f, b, a⟩ ⟨rc, rg, rt, rs, ro, ry⟩ = decide (s ≤ rc) := by simp [fitsA, q0, q1, q2, q3]
    rw [hf]
    clear hf
    go_enter Try.func26, Try.ntmps26
    go_wp2
    all_goals (go_ret; exact ⟨rfl, by repeat (with_reducible first | exact Upd.refl _ _ | refine Upd.alloc ?_ _)⟩)
  · have hf : fitsA ⟨ph, g, s, f, b, a⟩ ⟨rc, rg, rt, rs, ro, ry⟩ = false := by simp only [fitsA, decide_eq_false_iff_not]; omega
    rw [hf]
    clear hf
    go_enter Try.func26, Try.ntmps26
    go_wp2
    all_goals (go_ret; exact ⟨rfl, by repeat (with_reducible first | exact Upd.refl _ _ | refine Upd.alloc ?_ _)⟩)

theorem rbegin_calls_form (ph g s f b : Int) (a : Bool) (w : World) (Hm : Hid (∀ w, Calls Try.prog 22 #[.agg #[.int .u8 ph, .int .i64 g, .int .i64 s, .int .i64 f, .int .i64 b, .bool a]] w fun e w' => e = .returned (.bool false) ∧ New w w')) :
    Calls Try.prog 8 #[.agg #[.int .u8 ph, .int .i64 g, .int .i64 s, .int .i64 f, .int .i64 b, .bool a]] w fun e w' => e = .returned (.tuple #[.agg #[.int .u8 0, .int .i64 0, .int .i64 0, .int .i64 0, .int .i64 0, .bool false], .int .i64 171]) ∧ New w w' := by
  go_enter Try.func8, Try.ntmps8
  go_wp2_with (go_at_call 22; refine (Hm.out _).mono ?_; rintro e w1 ⟨rfl, hu⟩; obtain ⟨k0, k1, k2, k3, k4, k5, kf0, kf1, kf2, kf3, kf4, kf5⟩ := blk6f (hu.heap (k := w.heap.size) (o := .cells #[.int .u8 ph, .int .i64 g, .int .i64 s, .int .i64 f, .int .i64 b, .bool a] 27 (0, 0)) (by exact alloc1 _ _ _) (fun x => x)); obtain ⟨z0, z1, z2, z3, z4, z5, zf0, zf1, zf2, zf3, zf4, zf5⟩ := blk6f (hu.heap (k := w.heap.size + 1) (o := .cells #[.int .u8 0, .int .i64 0, .int .i64 0, .int .i64 0, .int .i64 0, .bool false] 27 (0, 0)) (by exact alloc2 _ _ _) (fun x => x)); have hz := hu.heap (k := w.heap.size + 1) (o := .cells #[.int .u8 0, .int .i64 0, .int .i64 0, .int .i64 0, .int .i64 0, .bool false] 27 (0, 0)) (by exact alloc2 _ _ _) (fun x => x); have HZ := Lib.hid hz; clear hz; have HU := Lib.hid hu; clear hu)
  refine bodyPost_ret (results_row_tmp rfl _ _ (w.heap.size + 1) 27 #[.int .u8 0, .int .i64 0, .int .i64 0, .int .i64 0, .int .i64 0, .bool false] _ rfl (by exact bset6 HZ.out) Try.underlying27 rfl size27 (.int .i64 171) rfl) rfl ⟨rfl, ?_⟩
  refine finishN (F := fun k => w.heap.size ≤ k) (((Upd.refl _ w).alloc _).alloc _) HU.out ?_ (fun k hk => hk)
  repeat (with_reducible first | exact Upd.refl _ _ | refine Upd.set ?_ (by show _ ≤ _; omega) _)

theorem rbegin_calls_busya (ph g s f b : Int) (w : World) (Hm : Hid (∀ w, Calls Try.prog 22 #[.agg #[.int .u8 ph, .int .i64 g, .int .i64 s, .int .i64 f, .int .i64 b, .bool true]] w fun e w' => e = .returned (.bool true) ∧ New w w')) :
    Calls Try.prog 8 #[.agg #[.int .u8 ph, .int .i64 g, .int .i64 s, .int .i64 f, .int .i64 b, .bool true]] w fun e w' => e = .returned (.tuple #[.agg #[.int .u8 0, .int .i64 0, .int .i64 0, .int .i64 0, .int .i64 0, .bool false], .int .i64 170]) ∧ New w w' := by
  go_enter Try.func8, Try.ntmps8
  go_wp2_with (go_at_call 22; refine (Hm.out _).mono ?_; rintro e w1 ⟨rfl, hu⟩; obtain ⟨k0, k1, k2, k3, k4, k5, kf0, kf1, kf2, kf3, kf4, kf5⟩ := blk6f (hu.heap (k := w.heap.size) (o := .cells #[.int .u8 ph, .int .i64 g, .int .i64 s, .int .i64 f, .int .i64 b, .bool true] 27 (0, 0)) (by exact alloc1 _ _ _) (fun x => x)); obtain ⟨z0, z1, z2, z3, z4, z5, zf0, zf1, zf2, zf3, zf4, zf5⟩ := blk6f (hu.heap (k := w.heap.size + 1) (o := .cells #[.int .u8 0, .int .i64 0, .int .i64 0, .int .i64 0, .int .i64 0, .bool false] 27 (0, 0)) (by exact alloc2 _ _ _) (fun x => x)); have hz := hu.heap (k := w.heap.size + 1) (o := .cells #[.int .u8 0, .int .i64 0, .int .i64 0, .int .i64 0, .int .i64 0, .bool false] 27 (0, 0)) (by exact alloc2 _ _ _) (fun x => x); have HZ := Lib.hid hz; clear hz; have HU := Lib.hid hu; clear hu)
  refine bodyPost_ret (results_row_tmp rfl _ _ (w.heap.size + 1) 27 #[.int .u8 0, .int .i64 0, .int .i64 0, .int .i64 0, .int .i64 0, .bool false] _ rfl (by exact bset6 HZ.out) Try.underlying27 rfl size27 (.int .i64 170) rfl) rfl ⟨rfl, ?_⟩
  refine finishN (F := fun k => w.heap.size ≤ k) (((Upd.refl _ w).alloc _).alloc _) HU.out ?_ (fun k hk => hk)
  repeat (with_reducible first | exact Upd.refl _ _ | refine Upd.set ?_ (by show _ ≤ _; omega) _)

theorem rbegin_calls_busyb (ph g s f b : Int) (w : World) (Hm : Hid (∀ w, Calls Try.prog 22 #[.agg #[.int .u8 ph, .int .i64 g, .int .i64 s, .int .i64 f, .int .i64 b, .bool false]] w fun e w' => e = .returned (.bool true) ∧ New w w')) (hb : (ph != 0) = true) :
    Calls Try.prog 8 #[.agg #[.int .u8 ph, .int .i64 g, .int .i64 s, .int .i64 f, .int .i64 b, .bool false]] w fun e w' => e = .returned (.tuple #[.agg #[.int .u8 0, .int .i64 0, .int .i64 0, .int .i64 0, .int .i64 0, .bool false], .int .i64 170]) ∧ New w w' := by
  go_enter Try.func8, Try.ntmps8
  go_wp2_with (go_at_call 22; refine (Hm.out _).mono ?_; rintro e w1 ⟨rfl, hu⟩; obtain ⟨k0, k1, k2, k3, k4, k5, kf0, kf1, kf2, kf3, kf4, kf5⟩ := blk6f (hu.heap (k := w.heap.size) (o := .cells #[.int .u8 ph, .int .i64 g, .int .i64 s, .int .i64 f, .int .i64 b, .bool false] 27 (0, 0)) (by exact alloc1 _ _ _) (fun x => x)); obtain ⟨z0, z1, z2, z3, z4, z5, zf0, zf1, zf2, zf3, zf4, zf5⟩ := blk6f (hu.heap (k := w.heap.size + 1) (o := .cells #[.int .u8 0, .int .i64 0, .int .i64 0, .int .i64 0, .int .i64 0, .bool false] 27 (0, 0)) (by exact alloc2 _ _ _) (fun x => x)); have hz := hu.heap (k := w.heap.size + 1) (o := .cells #[.int .u8 0, .int .i64 0, .int .i64 0, .int .i64 0, .int .i64 0, .bool false] 27 (0, 0)) (by exact alloc2 _ _ _) (fun x => x); have HZ := Lib.hid hz; clear hz; have HU := Lib.hid hu; clear hu)
  refine bodyPost_ret (results_row_tmp rfl _ _ (w.heap.size + 1) 27 #[.int .u8 0, .int .i64 0, .int .i64 0, .int .i64 0, .int .i64 0, .bool false] _ rfl (by exact bset6 HZ.out) Try.underlying27 rfl size27 (.int .i64 170) rfl) rfl ⟨rfl, ?_⟩
  refine finishN (F := fun k => w.heap.size ≤ k) (((Upd.refl _ w).alloc _).alloc _) HU.out ?_ (fun k hk => hk)
  repeat (with_reducible first | exact Upd.refl _ _ | refine Upd.set ?_ (by show _ ≤ _; omega) _)

theorem rbegin_calls_ok (g s f b : Int) (w : World) (Hm : Hid (∀ w, Calls Try.prog 22 #[.agg #[.int .u8 0, .int .i64 g, .int .i64 s, .int .i64 f, .int .i64 b, .bool false]] w fun e w' => e = .returned (.bool true) ∧ New w w')) :
    Calls Try.prog 8 #[.agg #[.int .u8 0, .int .i64 g, .int .i64 s, .int .i64 f, .int .i64 b, .bool false]] w fun e w' => e = .returned (.tuple #[.agg #[.int .u8 0, .int .i64 g, .int .i64 s, .int .i64 f, .int .i64 b, .bool true], .int .i64 0]) ∧ New w w' := by
  go_enter Try.func8, Try.ntmps8
  go_wp2_with (go_at_call 22; refine (Hm.out _).mono ?_; rintro e w1 ⟨rfl, hu⟩; obtain ⟨k0, k1, k2, k3, k4, k5, kf0, kf1, kf2, kf3, kf4, kf5⟩ := blk6f (hu.heap (k := w.heap.size) (o := .cells #[.int .u8 0, .int .i64 g, .int .i64 s, .int .i64 f, .int .i64 b, .bool false] 27 (0, 0)) (by exact alloc1 _ _ _) (fun x => x)); obtain ⟨z0, z1, z2, z3, z4, z5, zf0, zf1, zf2, zf3, zf4, zf5⟩ := blk6f (hu.heap (k := w.heap.size + 1) (o := .cells #[.int .u8 0, .int .i64 0, .int .i64 0, .int .i64 0, .int .i64 0, .bool false] 27 (0, 0)) (by exact alloc2 _ _ _) (fun x => x)); have hz := hu.heap (k := w.heap.size + 1) (o := .cells #[.int .u8 0, .int .i64 0, .int .i64 0, .int .i64 0, .int .i64 0, .bool false] 27 (0, 0)) (by exact alloc2 _ _ _) (fun x => x); have HZ := Lib.hid hz; clear hz; have HU := Lib.hid hu; clear hu)
  refine bodyPost_ret (results_row_tmp rfl _ _ (w.heap.size + 1) 27 #[.int .u8 0, .int .i64 g, .int .i64 s, .int .i64 f, .int .i64 b, .bool true] _ rfl (by exact bset6 (bother HZ.out (by omega) _)) Try.underlying27 rfl size27 (.int .i64 0) rfl) rfl ⟨rfl, ?_⟩
  refine finishN (F := fun k => w.heap.size ≤ k) (((Upd.refl _ w).alloc _).alloc _) HU.out ?_ (fun k hk => hk)
  repeat (with_reducible first | exact Upd.refl _ _ | refine Upd.set ?_ (by show _ ≤ _; omega) _)

theorem rbegin_calls (c : Cyc) (w : World) :
    Calls Try.prog 8 #[.agg #[.int .u8 c.ph, .int .i64 c.g, .int .i64 c.s, .int .i64 c.f, .int .i64 c.b, .bool c.a]] w fun e w' => e = .returned (.tuple #[.agg #[.int .u8 (beginC c).1.ph, .int .i64 (beginC c).1.g, .int .i64 (beginC c).1.s, .int .i64 (beginC c).1.f, .int .i64 (beginC c).1.b, .bool (beginC c).1.a], .int .i64 (beginC c).2]) ∧ New w w' := by
  have hm := rmay_calls c
  by_cases h0 : mayB c = true
  · rw [h0] at hm
    by_cases h1 : c.a = true
    · have hr : beginC c = (zeroC, 170) := by simp [beginC, h0, h1]
      rw [hr]
      clear hr h0
      obtain ⟨ph, g, s, f, b, a⟩ := c
      obtain rfl : a = true := h1
      exact rbegin_calls_busya _ _ _ _ _ w (Lib.hid hm)
    · have h1' : c.a = false := by simpa using h1
      by_cases h2 : c.ph = 0
      · have hr : beginC c = (⟨c.ph, c.g, c.s, c.f, c.b, true⟩, 0) := by simp [beginC, h0, h1, h2]
        rw [hr]
        clear hr h0 h1
        obtain ⟨ph, g, s, f, b, a⟩ := c
        obtain rfl : a = false := h1'
        obtain rfl : ph = 0 := h2
        exact rbegin_calls_ok _ _ _ _ w (Lib.hid hm)
      · have hr : beginC c = (zeroC, 170) := by simp [beginC, h0, h1, h2]
        have h2b : (c.ph != 0) = true := by rw [bne_iff_ne]; exact h2
        rw [hr]
        clear hr h0 h1 h2
        obtain ⟨ph, g, s, f, b, a⟩ := c
        obtain rfl : a = false := h1'
        exact rbegin_calls_busyb _ _ _ _ _ w (Lib.hid hm) h2b
  · have h0' : mayB c = false := by simpa using h0
    rw [h0'] at hm
    have hr : beginC c = (zeroC, 171) := by simp [beginC, h0']
    rw [hr]
    obtain ⟨ph, g, s, f, b, a⟩ := c
    exact rbegin_calls_form _ _ _ _ _ _ w (Lib.hid hm)

def mostI (c g t : Int) : Int := if c < 0 ∨ g < 0 ∨ t < 0 ∨ 2147483647 < c ∨ 2147483647 < g ∨ 2147483647 < t then 0 else 2 * c + g + t + 3

theorem rmost_calls (c g t : Int) (w : World) : Calls Try.prog 14 #[.int .i64 c, .int .i64 g, .int .i64 t] w fun e w' => e = .returned (.int .i64 (mostI c g t)) ∧ w = w' := by
  by_cases h : c < 0 ∨ g < 0 ∨ t < 0 ∨ 2147483647 < c ∨ 2147483647 < g ∨ 2147483647 < t
  · rw [show mostI c g t = 0 from if_pos h]
    go_enter Try.func14, Try.ntmps14
    go_wp2
    all_goals (go_ret; exact ⟨rfl, rfl⟩)
  · rw [show mostI c g t = 2 * c + g + t + 3 from if_neg h]
    have h1 : 0 ≤ c := by omega
    have h2 : 0 ≤ g := by omega
    have h3 : 0 ≤ t := by omega
    have h4 : c ≤ 2147483647 := by omega
    have h5 : g ≤ 2147483647 := by omega
    have h6 : t ≤ 2147483647 := by omega
    clear h
    go_enter Try.func14, Try.ntmps14
    go_wp2
    go_ret
    exact ⟨rfl, rfl⟩

theorem most_calls (c g t : Int) (w : World) : Calls Try.prog 12 #[.int .i64 c, .int .i64 g, .int .i64 t] w fun e w' => e = .returned (.int .i64 (mostI c g t)) ∧ New w w' := by
  go_enter Try.func12, Try.ntmps12
  go_wp2
  go_loop [14] (fun i => ∃ k : Nat, k ≤ 3 ∧ i = .int .i64 k ∧ Hid ((1 ≤ k → 0 ≤ c ∧ c ≤ 2147483647) ∧ (2 ≤ k → 0 ≤ g ∧ g ≤ 2147483647) ∧ (3 ≤ k → 0 ≤ t ∧ t ≤ 2147483647))) (fun i => 3 - (intOf i).toNat)
  case atStart => exact ⟨0, by omega, rfl, ⟨fun h => absurd h (by omega), fun h => absurd h (by omega), fun h => absurd h (by omega)⟩⟩
  case round =>
    obtain ⟨k, hk, rfl, H⟩ := hrel
    rcases (by omega : k = 0 ∨ k = 1 ∨ k = 2 ∨ k = 3) with rfl | rfl | rfl | rfl
    · by_cases h : c < 0 ∨ 2147483647 < c
      · go_wp2
        all_goals (go_ret; exact ⟨ret_int' (by rw [mostI, if_pos (by omega)]), (Upd.refl _ _).alloc _⟩)
      · have h1 : 0 ≤ c := by omega
        have h2 : c ≤ 2147483647 := by omega
        clear h
        go_wp2
        go_round
        case rel => exact ⟨1, by omega, by go_num, ⟨fun _ => ⟨by omega, by omega⟩, fun h => absurd h (by omega), fun h => absurd h (by omega)⟩⟩
        case measure => simp [intOf]
    · by_cases h : g < 0 ∨ 2147483647 < g
      · go_wp2
        all_goals (go_ret; exact ⟨ret_int' (by rw [mostI, if_pos (by omega)]), (Upd.refl _ _).alloc _⟩)
      · have h1 : 0 ≤ g := by omega
        have h2 : g ≤ 2147483647 := by omega
        clear h
        go_wp2
        go_round
        case rel => exact ⟨2, by omega, by go_num, ⟨fun _ => H.out.1 (by omega), fun _ => ⟨by omega, by omega⟩, fun h => absurd h (by omega)⟩⟩
        case measure => simp [intOf]
    · by_cases h : t < 0 ∨ 2147483647 < t
      · go_wp2
        all_goals (go_ret; exact ⟨ret_int' (by rw [mostI, if_pos (by omega)]), (Upd.refl _ _).alloc _⟩)
      · have h1 : 0 ≤ t := by omega
        have h2 : t ≤ 2147483647 := by omega
        clear h
        go_wp2
        go_round
        case rel => exact ⟨3, by omega, by go_num, ⟨fun _ => H.out.1 (by omega), fun _ => H.out.2.1 (by omega), fun _ => ⟨by omega, by omega⟩⟩⟩
        case measure => simp [intOf]
    · obtain ⟨a1, a2, a3⟩ := H.out
      obtain ⟨b1, b2⟩ := a1 (by omega)
      obtain ⟨b3, b4⟩ := a2 (by omega)
      obtain ⟨b5, b6⟩ := a3 (by omega)
      clear a1 a2 a3
      go_wp2
      go_ret
      exact ⟨ret_int' (by rw [mostI, if_neg (by omega)]), (Upd.refl _ _).alloc _⟩
end Go.Proofs.Ytgfabhioliljmaa
