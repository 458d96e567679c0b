import Derived.Test.YtgfabhioliljmaaCy
namespace Go.Proofs.Ytgfabhioliljmaa
open Go.RowKit
attribute [local go_sem high] eq27

theorem fits_calls (c : Cyc) (r : Aro) (w : World) :
    Calls Try.prog 23 #[.agg #[.int .u8 c.ph, .int .i64 c.g, .int .i64 c.s, .int .i64 c.f, .int .i64 c.b, .bool c.a], .agg #[.int .i64 r.cells, .int .i64 r.globals, .int .i64 r.thread, .bool r.still, .bool r.told, .bool r.grey]] w fun e w' => e = .returned (.bool (fitsB c r)) ∧ New w w' := by
  have hm := may_calls c
  have Hm := Lib.hid hm
  clear hm
  have hf : fitsB c r = (mayB c && fitsA c r) := rfl
  rw [hf]
  generalize mayB c = m at *
  obtain ⟨ph, g, s, f, b, a⟩ := c
  obtain ⟨rc, rg, rt, rs, ro, ry⟩ := r
  clear hf
  cases m with
  | false =>
    go_enter Try.func23, Try.ntmps23
    go_wp2_with (go_at_call 21; refine (Hm.out _).mono ?_; rintro e w1 ⟨rfl, hu⟩)
    go_ret
    exact ⟨rfl, by refine Upd.trans ?_ hu; repeat (with_reducible first | exact Upd.refl _ _ | refine Upd.alloc ?_ _)⟩
  | true =>
    by_cases h : 0 ≤ rc ∧ 0 ≤ rg ∧ 0 ≤ rt ∧ g ≤ rg
    · obtain ⟨q0, q1, q2, q3⟩ := h
      have hf : fitsA ⟨ph, g, s, f, b, a⟩ ⟨rc, rg, rt, rs, ro, ry⟩ = decide (s ≤ rc) := by simp [fitsA, q0, q1, q2, q3]
      rw [hf]
      clear hf
      go_enter Try.func23, Try.ntmps23
      go_wp2_with (go_at_call 21; refine (Hm.out _).mono ?_; rintro e w1 ⟨rfl, hu⟩; obtain ⟨⟨k0, k1, k2, k3, k4, k5⟩, _⟩ := blk6 (hu.heap (k := w.heap.size) (o := .cells #[.int .u8 ph, .int .i64 g, .int .i64 s, .int .i64 f, .int .i64 b, .bool a] 27 (0, 0)) (by exact alloc1 _ _ _) (fun x => x)); obtain ⟨⟨j0, j1, j2, j3, j4, j5⟩, _⟩ := blk6 (hu.heap (k := w.heap.size + 1) (o := .cells #[.int .i64 rc, .int .i64 rg, .int .i64 rt, .bool rs, .bool ro, .bool ry] 29 (0, 0)) (by exact alloc2 _ _ _) (fun x => x)))
      all_goals (go_ret; exact ⟨rfl, by refine Upd.trans ?_ hu; repeat (with_reducible first | exact Upd.refl _ _ | refine Upd.alloc ?_ _)⟩)
    · have hf : fitsA ⟨ph, g, s, f, b, a⟩ ⟨rc, rg, rt, rs, ro, ry⟩ = false := by simp only [fitsA, decide_eq_false_iff_not]; omega
      rw [hf]
      clear hf
      go_enter Try.func23, Try.ntmps23
      go_wp2_with (go_at_call 21; refine (Hm.out _).mono ?_; rintro e w1 ⟨rfl, hu⟩; obtain ⟨⟨k0, k1, k2, k3, k4, k5⟩, _⟩ := blk6 (hu.heap (k := w.heap.size) (o := .cells #[.int .u8 ph, .int .i64 g, .int .i64 s, .int .i64 f, .int .i64 b, .bool a] 27 (0, 0)) (by exact alloc1 _ _ _) (fun x => x)); obtain ⟨⟨j0, j1, j2, j3, j4, j5⟩, _⟩ := blk6 (hu.heap (k := w.heap.size + 1) (o := .cells #[.int .i64 rc, .int .i64 rg, .int .i64 rt, .bool rs, .bool ro, .bool ry] 29 (0, 0)) (by exact alloc2 _ _ _) (fun x => x)))
      all_goals (go_ret; exact ⟨rfl, by refine Upd.trans ?_ hu; repeat (with_reducible first | exact Upd.refl _ _ | refine Upd.alloc ?_ _)⟩)
end Go.Proofs.Ytgfabhioliljmaa
