import Derived.Test.YtgfabhioliljmaaCyC
namespace Go.Proofs.Ytgfabhioliljmaa
open Go.RowKit
attribute [local go_sem high] eq27

theorem thread_still (rc rg rt : Int) (ro : Bool) (ry : Bool) (w : World) :
    Calls Try.prog 24 #[.agg #[.int .i64 rc, .int .i64 rg, .int .i64 rt, .bool true, .bool ro, .bool ry]] w fun e w' => e = .returned (.agg #[.int .u8 21, .int .i64 0, .int .i64 rt, .int .i64 0]) ∧ New w w' := by
  go_enter Try.func24, Try.ntmps24
  go_wp2
  refine bodyPost_ret (results_cell_row rfl _ _ (w.heap.size + 1) 34 #[.int .u8 21, .int .i64 0, .int .i64 rt, .int .i64 0] (0, 0) _ rfl (by exact alloc2 _ _ _) Try.underlying34 rfl size34) rfl ⟨rfl, ((Upd.refl _ w).alloc _).alloc _⟩
theorem thread_told (rc rg rt : Int) (ry : Bool) (w : World) :
    Calls Try.prog 24 #[.agg #[.int .i64 rc, .int .i64 rg, .int .i64 rt, .bool false, .bool true, .bool ry]] w fun e w' => e = .returned (.agg #[.int .u8 0, .int .i64 0, .int .i64 0, .int .i64 0]) ∧ New w w' := by
  go_enter Try.func24, Try.ntmps24
  go_wp2
  refine bodyPost_ret (results_cell_row rfl _ _ (w.heap.size + 1) 34 #[.int .u8 0, .int .i64 0, .int .i64 0, .int .i64 0] (0, 0) _ rfl (by exact alloc2 _ _ _) Try.underlying34 rfl size34) rfl ⟨rfl, ((Upd.refl _ w).alloc _).alloc _⟩
theorem thread_ask (rc rg rt : Int) (ry : Bool) (w : World) :
    Calls Try.prog 24 #[.agg #[.int .i64 rc, .int .i64 rg, .int .i64 rt, .bool false, .bool false, .bool ry]] w fun e w' => e = .returned (.agg #[.int .u8 20, .int .i64 0, .int .i64 rt, .int .i64 0]) ∧ New w w' := by
  go_enter Try.func24, Try.ntmps24
  go_wp2
  refine bodyPost_ret (results_cell_row rfl _ _ (w.heap.size + 1) 34 #[.int .u8 20, .int .i64 0, .int .i64 rt, .int .i64 0] (0, 0) _ rfl (by exact alloc2 _ _ _) Try.underlying34 rfl size34) rfl ⟨rfl, ((Upd.refl _ w).alloc _).alloc _⟩

theorem thread_calls (r : Aro) (w : World) :
    Calls Try.prog 24 #[.agg #[.int .i64 r.cells, .int .i64 r.globals, .int .i64 r.thread, .bool r.still, .bool r.told, .bool r.grey]] w fun e w' => e = .returned (.agg #[.int .u8 (threadD r).w, .int .i64 (threadD r).g, .int .i64 (threadD r).t, .int .i64 (threadD r).c]) ∧ New w w' := by
  obtain ⟨rc, rg, rt, rs, ro, ry⟩ := r
  cases rs
  · cases ro
    · exact thread_ask _ _ _ _ w
    · exact thread_told _ _ _ _ w
  · exact thread_still _ _ _ _ _ w

theorem next_no (ph g s f b : Int) (a : Bool) (rc rg rt : Int) (rs ro ry : Bool) (w : World) (Hm : Hid (∀ w, Calls Try.prog 23 #[.agg #[.int .u8 ph, .int .i64 g, .int .i64 s, .int .i64 f, .int .i64 b, .bool a], .agg #[.int .i64 rc, .int .i64 rg, .int .i64 rt, .bool rs, .bool ro, .bool ry]] w fun e w' => e = .returned (.bool false) ∧ New w w')) :
    Calls Try.prog 9 #[.agg #[.int .u8 ph, .int .i64 g, .int .i64 s, .int .i64 f, .int .i64 b, .bool a], .agg #[.int .i64 rc, .int .i64 rg, .int .i64 rt, .bool rs, .bool ro, .bool ry]] w fun e w' => e = .returned (.agg #[.int .u8 0, .int .i64 0, .int .i64 0, .int .i64 0]) ∧ New w w' := by
  go_enter Try.func9, Try.ntmps9
  go_wp2_with (go_at_call 23; refine (Hm.out _).mono ?_; rintro e w1 ⟨rfl, hu⟩; obtain ⟨k0, k1, k2, k3, k4, k5, kf0, kf1, kf2, kf3, kf4, kf5⟩ := blk6f (hu.heap (k := w.heap.size) (o := .cells #[.int .u8 ph, .int .i64 g, .int .i64 s, .int .i64 f, .int .i64 b, .bool a] 27 (0, 0)) (by exact alloc31 _ _ _ _) (fun x => x)); obtain ⟨r0, r1, r2, r3, r4, r5, rf0, rf1, rf2, rf3, rf4, rf5⟩ := blk6f (hu.heap (k := w.heap.size + 1) (o := .cells #[.int .i64 rc, .int .i64 rg, .int .i64 rt, .bool rs, .bool ro, .bool ry] 29 (0, 0)) (by exact alloc32 _ _ _ _) (fun x => x)); obtain ⟨z0, z1, z2, z3, zf0, zf1, zf2, zf3⟩ := blk4f (hu.heap (k := w.heap.size + 1 + 1) (o := .cells #[.int .u8 0, .int .i64 0, .int .i64 0, .int .i64 0] 34 (0, 0)) (by exact alloc33 _ _ _ _) (fun x => x)); have hz := hu.heap (k := w.heap.size + 1 + 1) (o := .cells #[.int .u8 0, .int .i64 0, .int .i64 0, .int .i64 0] 34 (0, 0)) (by exact alloc33 _ _ _ _) (fun x => x); have HZ := Lib.hid hz; clear hz; have HU := Lib.hid hu; clear hu)
  refine bodyPost_ret (results_cell_row rfl _ _ (w.heap.size + 1 + 1) 34 #[.int .u8 0, .int .i64 0, .int .i64 0, .int .i64 0] (0, 0) _ rfl (by exact bset4 HZ.out) Try.underlying34 rfl size34) rfl ⟨rfl, ?_⟩
  refine finishN (F := fun k => w.heap.size ≤ k) ((((Upd.refl _ w).alloc _).alloc _).alloc _) HU.out ?_ (fun k hk => hk)
  repeat (with_reducible first | exact Upd.refl _ _ | refine Upd.set ?_ (by show _ ≤ _; omega) _)

theorem next_idle0 (g s f b : Int) (rc rg rt : Int) (rs ro ry : Bool) (w : World) (Hm : Hid (∀ w, Calls Try.prog 23 #[.agg #[.int .u8 0, .int .i64 g, .int .i64 s, .int .i64 f, .int .i64 b, .bool false], .agg #[.int .i64 rc, .int .i64 rg, .int .i64 rt, .bool rs, .bool ro, .bool ry]] w fun e w' => e = .returned (.bool true) ∧ New w w')) :
    Calls Try.prog 9 #[.agg #[.int .u8 0, .int .i64 g, .int .i64 s, .int .i64 f, .int .i64 b, .bool false], .agg #[.int .i64 rc, .int .i64 rg, .int .i64 rt, .bool rs, .bool ro, .bool ry]] w fun e w' => e = .returned (.agg #[.int .u8 0, .int .i64 0, .int .i64 0, .int .i64 0]) ∧ New w w' := by
  go_enter Try.func9, Try.ntmps9
  go_wp2_with (go_at_call 23; refine (Hm.out _).mono ?_; rintro e w1 ⟨rfl, hu⟩; obtain ⟨k0, k1, k2, k3, k4, k5, kf0, kf1, kf2, kf3, kf4, kf5⟩ := blk6f (hu.heap (k := w.heap.size) (o := .cells #[.int .u8 0, .int .i64 g, .int .i64 s, .int .i64 f, .int .i64 b, .bool false] 27 (0, 0)) (by exact alloc31 _ _ _ _) (fun x => x)); obtain ⟨r0, r1, r2, r3, r4, r5, rf0, rf1, rf2, rf3, rf4, rf5⟩ := blk6f (hu.heap (k := w.heap.size + 1) (o := .cells #[.int .i64 rc, .int .i64 rg, .int .i64 rt, .bool rs, .bool ro, .bool ry] 29 (0, 0)) (by exact alloc32 _ _ _ _) (fun x => x)); obtain ⟨z0, z1, z2, z3, zf0, zf1, zf2, zf3⟩ := blk4f (hu.heap (k := w.heap.size + 1 + 1) (o := .cells #[.int .u8 0, .int .i64 0, .int .i64 0, .int .i64 0] 34 (0, 0)) (by exact alloc33 _ _ _ _) (fun x => x)); have hz := hu.heap (k := w.heap.size + 1 + 1) (o := .cells #[.int .u8 0, .int .i64 0, .int .i64 0, .int .i64 0] 34 (0, 0)) (by exact alloc33 _ _ _ _) (fun x => x); have HZ := Lib.hid hz; clear hz; have HU := Lib.hid hu; clear hu)
  refine bodyPost_ret (results_cell_row rfl _ _ (w.heap.size + 1 + 1) 34 #[.int .u8 0, .int .i64 0, .int .i64 0, .int .i64 0] (0, 0) _ rfl (by exact bset4 HZ.out) Try.underlying34 rfl size34) rfl ⟨rfl, ?_⟩
  refine finishN (F := fun k => w.heap.size ≤ k) ((((Upd.refl _ w).alloc _).alloc _).alloc _) HU.out ?_ (fun k hk => hk)
  repeat (with_reducible first | exact Upd.refl _ _ | refine Upd.set ?_ (by show _ ≤ _; omega) _)

theorem next_idle1 (g s f b : Int) (rc rg rt : Int) (rs ro ry : Bool) (w : World) (Hm : Hid (∀ w, Calls Try.prog 23 #[.agg #[.int .u8 0, .int .i64 g, .int .i64 s, .int .i64 f, .int .i64 b, .bool true], .agg #[.int .i64 rc, .int .i64 rg, .int .i64 rt, .bool rs, .bool ro, .bool ry]] w fun e w' => e = .returned (.bool true) ∧ New w w')) :
    Calls Try.prog 9 #[.agg #[.int .u8 0, .int .i64 g, .int .i64 s, .int .i64 f, .int .i64 b, .bool true], .agg #[.int .i64 rc, .int .i64 rg, .int .i64 rt, .bool rs, .bool ro, .bool ry]] w fun e w' => e = .returned (.agg #[.int .u8 18, .int .i64 0, .int .i64 0, .int .i64 0]) ∧ New w w' := by
  go_enter Try.func9, Try.ntmps9
  go_wp2_with (go_at_call 23; refine (Hm.out _).mono ?_; rintro e w1 ⟨rfl, hu⟩; obtain ⟨k0, k1, k2, k3, k4, k5, kf0, kf1, kf2, kf3, kf4, kf5⟩ := blk6f (hu.heap (k := w.heap.size) (o := .cells #[.int .u8 0, .int .i64 g, .int .i64 s, .int .i64 f, .int .i64 b, .bool true] 27 (0, 0)) (by exact alloc31 _ _ _ _) (fun x => x)); obtain ⟨r0, r1, r2, r3, r4, r5, rf0, rf1, rf2, rf3, rf4, rf5⟩ := blk6f (hu.heap (k := w.heap.size + 1) (o := .cells #[.int .i64 rc, .int .i64 rg, .int .i64 rt, .bool rs, .bool ro, .bool ry] 29 (0, 0)) (by exact alloc32 _ _ _ _) (fun x => x)); obtain ⟨z0, z1, z2, z3, zf0, zf1, zf2, zf3⟩ := blk4f (hu.heap (k := w.heap.size + 1 + 1) (o := .cells #[.int .u8 0, .int .i64 0, .int .i64 0, .int .i64 0] 34 (0, 0)) (by exact alloc33 _ _ _ _) (fun x => x)); have hz := hu.heap (k := w.heap.size + 1 + 1) (o := .cells #[.int .u8 0, .int .i64 0, .int .i64 0, .int .i64 0] 34 (0, 0)) (by exact alloc33 _ _ _ _) (fun x => x); have HZ := Lib.hid hz; clear hz; have HU := Lib.hid hu; clear hu)
  refine bodyPost_ret (results_cell_row rfl _ _ (w.heap.size + 1 + 1) 34 #[.int .u8 18, .int .i64 0, .int .i64 0, .int .i64 0] (0, 0) _ rfl (by exact bset4 HZ.out) Try.underlying34 rfl size34) rfl ⟨rfl, ?_⟩
  refine finishN (F := fun k => w.heap.size ≤ k) ((((Upd.refl _ w).alloc _).alloc _).alloc _) HU.out ?_ (fun k hk => hk)
  repeat (with_reducible first | exact Upd.refl _ _ | refine Upd.set ?_ (by show _ ≤ _; omega) _)

theorem next_root (g s f b : Int) (a : Bool) (rc rg rt : Int) (rs ro ry : Bool) (w : World) (Hm : Hid (∀ w, Calls Try.prog 23 #[.agg #[.int .u8 1, .int .i64 g, .int .i64 s, .int .i64 f, .int .i64 b, .bool a], .agg #[.int .i64 rc, .int .i64 rg, .int .i64 rt, .bool rs, .bool ro, .bool ry]] w fun e w' => e = .returned (.bool true) ∧ New w w')) (h1 : decide (g < rg) = true) :
    Calls Try.prog 9 #[.agg #[.int .u8 1, .int .i64 g, .int .i64 s, .int .i64 f, .int .i64 b, .bool a], .agg #[.int .i64 rc, .int .i64 rg, .int .i64 rt, .bool rs, .bool ro, .bool ry]] w fun e w' => e = .returned (.agg #[.int .u8 19, .int .i64 g, .int .i64 0, .int .i64 0]) ∧ New w w' := by
  go_enter Try.func9, Try.ntmps9
  go_wp2_with (go_at_call 23; refine (Hm.out _).mono ?_; rintro e w1 ⟨rfl, hu⟩; obtain ⟨k0, k1, k2, k3, k4, k5, kf0, kf1, kf2, kf3, kf4, kf5⟩ := blk6f (hu.heap (k := w.heap.size) (o := .cells #[.int .u8 1, .int .i64 g, .int .i64 s, .int .i64 f, .int .i64 b, .bool a] 27 (0, 0)) (by exact alloc31 _ _ _ _) (fun x => x)); obtain ⟨r0, r1, r2, r3, r4, r5, rf0, rf1, rf2, rf3, rf4, rf5⟩ := blk6f (hu.heap (k := w.heap.size + 1) (o := .cells #[.int .i64 rc, .int .i64 rg, .int .i64 rt, .bool rs, .bool ro, .bool ry] 29 (0, 0)) (by exact alloc32 _ _ _ _) (fun x => x)); obtain ⟨z0, z1, z2, z3, zf0, zf1, zf2, zf3⟩ := blk4f (hu.heap (k := w.heap.size + 1 + 1) (o := .cells #[.int .u8 0, .int .i64 0, .int .i64 0, .int .i64 0] 34 (0, 0)) (by exact alloc33 _ _ _ _) (fun x => x)); have hz := hu.heap (k := w.heap.size + 1 + 1) (o := .cells #[.int .u8 0, .int .i64 0, .int .i64 0, .int .i64 0] 34 (0, 0)) (by exact alloc33 _ _ _ _) (fun x => x); have HZ := Lib.hid hz; clear hz; have HU := Lib.hid hu; clear hu)
  refine bodyPost_ret (results_cell_row rfl _ _ (w.heap.size + 1 + 1) 34 #[.int .u8 19, .int .i64 g, .int .i64 0, .int .i64 0] (0, 0) _ rfl (by exact bset4 HZ.out) Try.underlying34 rfl size34) rfl ⟨rfl, ?_⟩
  refine finishN (F := fun k => w.heap.size ≤ k) ((((Upd.refl _ w).alloc _).alloc _).alloc _) HU.out ?_ (fun k hk => hk)
  repeat (with_reducible first | exact Upd.refl _ _ | refine Upd.set ?_ (by show _ ≤ _; omega) _)

theorem next_thread (g s f b : Int) (a : Bool) (dw dg dt dc : Int) (rc rg rt : Int) (rs ro ry : Bool) (w : World) (Hm : Hid (∀ w, Calls Try.prog 23 #[.agg #[.int .u8 1, .int .i64 g, .int .i64 s, .int .i64 f, .int .i64 b, .bool a], .agg #[.int .i64 rc, .int .i64 rg, .int .i64 rt, .bool rs, .bool ro, .bool ry]] w fun e w' => e = .returned (.bool true) ∧ New w w')) (Ht : Hid (∀ w, Calls Try.prog 24 #[.agg #[.int .i64 rc, .int .i64 rg, .int .i64 rt, .bool rs, .bool ro, .bool ry]] w fun e w' => e = .returned (.agg #[.int .u8 dw, .int .i64 dg, .int .i64 dt, .int .i64 dc]) ∧ New w w')) (h1 : decide (g < rg) = false) (h2 : (rt != 0) = true) :
    Calls Try.prog 9 #[.agg #[.int .u8 1, .int .i64 g, .int .i64 s, .int .i64 f, .int .i64 b, .bool a], .agg #[.int .i64 rc, .int .i64 rg, .int .i64 rt, .bool rs, .bool ro, .bool ry]] w fun e w' => e = .returned (.agg #[.int .u8 dw, .int .i64 dg, .int .i64 dt, .int .i64 dc]) ∧ New w w' := by
  go_enter Try.func9, Try.ntmps9
  go_wp2_with (first | (go_at_call 23; refine (Hm.out _).mono ?_; rintro e w1 ⟨rfl, hu⟩; obtain ⟨k0, k1, k2, k3, k4, k5, kf0, kf1, kf2, kf3, kf4, kf5⟩ := blk6f (hu.heap (k := w.heap.size) (o := .cells #[.int .u8 1, .int .i64 g, .int .i64 s, .int .i64 f, .int .i64 b, .bool a] 27 (0, 0)) (by exact alloc31 _ _ _ _) (fun x => x)); obtain ⟨r0, r1, r2, r3, r4, r5, rf0, rf1, rf2, rf3, rf4, rf5⟩ := blk6f (hu.heap (k := w.heap.size + 1) (o := .cells #[.int .i64 rc, .int .i64 rg, .int .i64 rt, .bool rs, .bool ro, .bool ry] 29 (0, 0)) (by exact alloc32 _ _ _ _) (fun x => x)); obtain ⟨z0, z1, z2, z3, zf0, zf1, zf2, zf3⟩ := blk4f (hu.heap (k := w.heap.size + 1 + 1) (o := .cells #[.int .u8 0, .int .i64 0, .int .i64 0, .int .i64 0] 34 (0, 0)) (by exact alloc33 _ _ _ _) (fun x => x)); have hz := hu.heap (k := w.heap.size + 1 + 1) (o := .cells #[.int .u8 0, .int .i64 0, .int .i64 0, .int .i64 0] 34 (0, 0)) (by exact alloc33 _ _ _ _) (fun x => x); have HZ := Lib.hid hz; clear hz; have HU := Lib.hid hu; clear hu) | (go_at_call 24; refine (Ht.out _).mono ?_; rintro e w2 ⟨rfl, hu⟩; obtain ⟨z0, z1, z2, z3, zf0, zf1, zf2, zf3⟩ := blk4f (hu.heap HZ.out (fun x => x)); have hz := hu.heap HZ.out (fun x => x); have HZ2 := Lib.hid hz; clear hz; have HU2 := Lib.hid hu; clear hu))
  refine bodyPost_ret (results_cell_row rfl _ _ (w.heap.size + 1 + 1) 34 #[.int .u8 dw, .int .i64 dg, .int .i64 dt, .int .i64 dc] (0, 0) _ rfl (by exact bset4 HZ2.out) Try.underlying34 rfl size34) rfl ⟨rfl, ?_⟩
  refine finishN (F := fun k => w.heap.size ≤ k) ((((Upd.refl _ w).alloc _).alloc _).alloc _) (Upd.trans HU.out HU2.out) ?_ (fun k hk => hk)
  repeat (with_reducible first | exact Upd.refl _ _ | refine Upd.set ?_ (by show _ ≤ _; omega) _)

theorem next_rootstrue (g s f b : Int) (a : Bool) (rc rg rt : Int) (rs ro : Bool) (w : World) (Hm : Hid (∀ w, Calls Try.prog 23 #[.agg #[.int .u8 1, .int .i64 g, .int .i64 s, .int .i64 f, .int .i64 b, .bool a], .agg #[.int .i64 rc, .int .i64 rg, .int .i64 rt, .bool rs, .bool ro, .bool true]] w fun e w' => e = .returned (.bool true) ∧ New w w')) (h1 : decide (g < rg) = false) (h2 : (rt != 0) = false) :
    Calls Try.prog 9 #[.agg #[.int .u8 1, .int .i64 g, .int .i64 s, .int .i64 f, .int .i64 b, .bool a], .agg #[.int .i64 rc, .int .i64 rg, .int .i64 rt, .bool rs, .bool ro, .bool true]] w fun e w' => e = .returned (.agg #[.int .u8 22, .int .i64 0, .int .i64 0, .int .i64 0]) ∧ New w w' := by
  go_enter Try.func9, Try.ntmps9
  go_wp2_with (go_at_call 23; refine (Hm.out _).mono ?_; rintro e w1 ⟨rfl, hu⟩; obtain ⟨k0, k1, k2, k3, k4, k5, kf0, kf1, kf2, kf3, kf4, kf5⟩ := blk6f (hu.heap (k := w.heap.size) (o := .cells #[.int .u8 1, .int .i64 g, .int .i64 s, .int .i64 f, .int .i64 b, .bool a] 27 (0, 0)) (by exact alloc31 _ _ _ _) (fun x => x)); obtain ⟨r0, r1, r2, r3, r4, r5, rf0, rf1, rf2, rf3, rf4, rf5⟩ := blk6f (hu.heap (k := w.heap.size + 1) (o := .cells #[.int .i64 rc, .int .i64 rg, .int .i64 rt, .bool rs, .bool ro, .bool true] 29 (0, 0)) (by exact alloc32 _ _ _ _) (fun x => x)); obtain ⟨z0, z1, z2, z3, zf0, zf1, zf2, zf3⟩ := blk4f (hu.heap (k := w.heap.size + 1 + 1) (o := .cells #[.int .u8 0, .int .i64 0, .int .i64 0, .int .i64 0] 34 (0, 0)) (by exact alloc33 _ _ _ _) (fun x => x)); have hz := hu.heap (k := w.heap.size + 1 + 1) (o := .cells #[.int .u8 0, .int .i64 0, .int .i64 0, .int .i64 0] 34 (0, 0)) (by exact alloc33 _ _ _ _) (fun x => x); have HZ := Lib.hid hz; clear hz; have HU := Lib.hid hu; clear hu)
  refine bodyPost_ret (results_cell_row rfl _ _ (w.heap.size + 1 + 1) 34 #[.int .u8 22, .int .i64 0, .int .i64 0, .int .i64 0] (0, 0) _ rfl (by exact bset4 HZ.out) Try.underlying34 rfl size34) rfl ⟨rfl, ?_⟩
  refine finishN (F := fun k => w.heap.size ≤ k) ((((Upd.refl _ w).alloc _).alloc _).alloc _) HU.out ?_ (fun k hk => hk)
  repeat (with_reducible first | exact Upd.refl _ _ | refine Upd.set ?_ (by show _ ≤ _; omega) _)

theorem next_marktrue (g s f b : Int) (a : Bool) (rc rg rt : Int) (rs ro : Bool) (w : World) (Hm : Hid (∀ w, Calls Try.prog 23 #[.agg #[.int .u8 2, .int .i64 g, .int .i64 s, .int .i64 f, .int .i64 b, .bool a], .agg #[.int .i64 rc, .int .i64 rg, .int .i64 rt, .bool rs, .bool ro, .bool true]] w fun e w' => e = .returned (.bool true) ∧ New w w')) :
    Calls Try.prog 9 #[.agg #[.int .u8 2, .int .i64 g, .int .i64 s, .int .i64 f, .int .i64 b, .bool a], .agg #[.int .i64 rc, .int .i64 rg, .int .i64 rt, .bool rs, .bool ro, .bool true]] w fun e w' => e = .returned (.agg #[.int .u8 22, .int .i64 0, .int .i64 0, .int .i64 0]) ∧ New w w' := by
  go_enter Try.func9, Try.ntmps9
  go_wp2_with (go_at_call 23; refine (Hm.out _).mono ?_; rintro e w1 ⟨rfl, hu⟩; obtain ⟨k0, k1, k2, k3, k4, k5, kf0, kf1, kf2, kf3, kf4, kf5⟩ := blk6f (hu.heap (k := w.heap.size) (o := .cells #[.int .u8 2, .int .i64 g, .int .i64 s, .int .i64 f, .int .i64 b, .bool a] 27 (0, 0)) (by exact alloc31 _ _ _ _) (fun x => x)); obtain ⟨r0, r1, r2, r3, r4, r5, rf0, rf1, rf2, rf3, rf4, rf5⟩ := blk6f (hu.heap (k := w.heap.size + 1) (o := .cells #[.int .i64 rc, .int .i64 rg, .int .i64 rt, .bool rs, .bool ro, .bool true] 29 (0, 0)) (by exact alloc32 _ _ _ _) (fun x => x)); obtain ⟨z0, z1, z2, z3, zf0, zf1, zf2, zf3⟩ := blk4f (hu.heap (k := w.heap.size + 1 + 1) (o := .cells #[.int .u8 0, .int .i64 0, .int .i64 0, .int .i64 0] 34 (0, 0)) (by exact alloc33 _ _ _ _) (fun x => x)); have hz := hu.heap (k := w.heap.size + 1 + 1) (o := .cells #[.int .u8 0, .int .i64 0, .int .i64 0, .int .i64 0] 34 (0, 0)) (by exact alloc33 _ _ _ _) (fun x => x); have HZ := Lib.hid hz; clear hz; have HU := Lib.hid hu; clear hu)
  refine bodyPost_ret (results_cell_row rfl _ _ (w.heap.size + 1 + 1) 34 #[.int .u8 22, .int .i64 0, .int .i64 0, .int .i64 0] (0, 0) _ rfl (by exact bset4 HZ.out) Try.underlying34 rfl size34) rfl ⟨rfl, ?_⟩
  refine finishN (F := fun k => w.heap.size ≤ k) ((((Upd.refl _ w).alloc _).alloc _).alloc _) HU.out ?_ (fun k hk => hk)
  repeat (with_reducible first | exact Upd.refl _ _ | refine Upd.set ?_ (by show _ ≤ _; omega) _)

theorem next_rootsfalse (g s f b : Int) (a : Bool) (rc rg rt : Int) (rs ro : Bool) (w : World) (Hm : Hid (∀ w, Calls Try.prog 23 #[.agg #[.int .u8 1, .int .i64 g, .int .i64 s, .int .i64 f, .int .i64 b, .bool a], .agg #[.int .i64 rc, .int .i64 rg, .int .i64 rt, .bool rs, .bool ro, .bool false]] w fun e w' => e = .returned (.bool true) ∧ New w w')) (h1 : decide (g < rg) = false) (h2 : (rt != 0) = false) :
    Calls Try.prog 9 #[.agg #[.int .u8 1, .int .i64 g, .int .i64 s, .int .i64 f, .int .i64 b, .bool a], .agg #[.int .i64 rc, .int .i64 rg, .int .i64 rt, .bool rs, .bool ro, .bool false]] w fun e w' => e = .returned (.agg #[.int .u8 23, .int .i64 0, .int .i64 0, .int .i64 0]) ∧ New w w' := by
  go_enter Try.func9, Try.ntmps9
  go_wp2_with (go_at_call 23; refine (Hm.out _).mono ?_; rintro e w1 ⟨rfl, hu⟩; obtain ⟨k0, k1, k2, k3, k4, k5, kf0, kf1, kf2, kf3, kf4, kf5⟩ := blk6f (hu.heap (k := w.heap.size) (o := .cells #[.int .u8 1, .int .i64 g, .int .i64 s, .int .i64 f, .int .i64 b, .bool a] 27 (0, 0)) (by exact alloc31 _ _ _ _) (fun x => x)); obtain ⟨r0, r1, r2, r3, r4, r5, rf0, rf1, rf2, rf3, rf4, rf5⟩ := blk6f (hu.heap (k := w.heap.size + 1) (o := .cells #[.int .i64 rc, .int .i64 rg, .int .i64 rt, .bool rs, .bool ro, .bool false] 29 (0, 0)) (by exact alloc32 _ _ _ _) (fun x => x)); obtain ⟨z0, z1, z2, z3, zf0, zf1, zf2, zf3⟩ := blk4f (hu.heap (k := w.heap.size + 1 + 1) (o := .cells #[.int .u8 0, .int .i64 0, .int .i64 0, .int .i64 0] 34 (0, 0)) (by exact alloc33 _ _ _ _) (fun x => x)); have hz := hu.heap (k := w.heap.size + 1 + 1) (o := .cells #[.int .u8 0, .int .i64 0, .int .i64 0, .int .i64 0] 34 (0, 0)) (by exact alloc33 _ _ _ _) (fun x => x); have HZ := Lib.hid hz; clear hz; have HU := Lib.hid hu; clear hu)
  refine bodyPost_ret (results_cell_row rfl _ _ (w.heap.size + 1 + 1) 34 #[.int .u8 23, .int .i64 0, .int .i64 0, .int .i64 0] (0, 0) _ rfl (by exact bset4 HZ.out) Try.underlying34 rfl size34) rfl ⟨rfl, ?_⟩
  refine finishN (F := fun k => w.heap.size ≤ k) ((((Upd.refl _ w).alloc _).alloc _).alloc _) HU.out ?_ (fun k hk => hk)
  repeat (with_reducible first | exact Upd.refl _ _ | refine Upd.set ?_ (by show _ ≤ _; omega) _)

theorem next_markfalse (g s f b : Int) (a : Bool) (rc rg rt : Int) (rs ro : Bool) (w : World) (Hm : Hid (∀ w, Calls Try.prog 23 #[.agg #[.int .u8 2, .int .i64 g, .int .i64 s, .int .i64 f, .int .i64 b, .bool a], .agg #[.int .i64 rc, .int .i64 rg, .int .i64 rt, .bool rs, .bool ro, .bool false]] w fun e w' => e = .returned (.bool true) ∧ New w w')) :
    Calls Try.prog 9 #[.agg #[.int .u8 2, .int .i64 g, .int .i64 s, .int .i64 f, .int .i64 b, .bool a], .agg #[.int .i64 rc, .int .i64 rg, .int .i64 rt, .bool rs, .bool ro, .bool false]] w fun e w' => e = .returned (.agg #[.int .u8 23, .int .i64 0, .int .i64 0, .int .i64 0]) ∧ New w w' := by
  go_enter Try.func9, Try.ntmps9
  go_wp2_with (go_at_call 23; refine (Hm.out _).mono ?_; rintro e w1 ⟨rfl, hu⟩; obtain ⟨k0, k1, k2, k3, k4, k5, kf0, kf1, kf2, kf3, kf4, kf5⟩ := blk6f (hu.heap (k := w.heap.size) (o := .cells #[.int .u8 2, .int .i64 g, .int .i64 s, .int .i64 f, .int .i64 b, .bool a] 27 (0, 0)) (by exact alloc31 _ _ _ _) (fun x => x)); obtain ⟨r0, r1, r2, r3, r4, r5, rf0, rf1, rf2, rf3, rf4, rf5⟩ := blk6f (hu.heap (k := w.heap.size + 1) (o := .cells #[.int .i64 rc, .int .i64 rg, .int .i64 rt, .bool rs, .bool ro, .bool false] 29 (0, 0)) (by exact alloc32 _ _ _ _) (fun x => x)); obtain ⟨z0, z1, z2, z3, zf0, zf1, zf2, zf3⟩ := blk4f (hu.heap (k := w.heap.size + 1 + 1) (o := .cells #[.int .u8 0, .int .i64 0, .int .i64 0, .int .i64 0] 34 (0, 0)) (by exact alloc33 _ _ _ _) (fun x => x)); have hz := hu.heap (k := w.heap.size + 1 + 1) (o := .cells #[.int .u8 0, .int .i64 0, .int .i64 0, .int .i64 0] 34 (0, 0)) (by exact alloc33 _ _ _ _) (fun x => x); have HZ := Lib.hid hz; clear hz; have HU := Lib.hid hu; clear hu)
  refine bodyPost_ret (results_cell_row rfl _ _ (w.heap.size + 1 + 1) 34 #[.int .u8 23, .int .i64 0, .int .i64 0, .int .i64 0] (0, 0) _ rfl (by exact bset4 HZ.out) Try.underlying34 rfl size34) rfl ⟨rfl, ?_⟩
  refine finishN (F := fun k => w.heap.size ≤ k) ((((Upd.refl _ w).alloc _).alloc _).alloc _) HU.out ?_ (fun k hk => hk)
  repeat (with_reducible first | exact Upd.refl _ _ | refine Upd.set ?_ (by show _ ≤ _; omega) _)

theorem next_sweep (g s f b : Int) (a : Bool) (rc rg rt : Int) (rs ro ry : Bool) (w : World) (Hm : Hid (∀ w, Calls Try.prog 23 #[.agg #[.int .u8 3, .int .i64 g, .int .i64 s, .int .i64 f, .int .i64 b, .bool a], .agg #[.int .i64 rc, .int .i64 rg, .int .i64 rt, .bool rs, .bool ro, .bool ry]] w fun e w' => e = .returned (.bool true) ∧ New w w')) (h1 : decide (s < rc) = true) :
    Calls Try.prog 9 #[.agg #[.int .u8 3, .int .i64 g, .int .i64 s, .int .i64 f, .int .i64 b, .bool a], .agg #[.int .i64 rc, .int .i64 rg, .int .i64 rt, .bool rs, .bool ro, .bool ry]] w fun e w' => e = .returned (.agg #[.int .u8 24, .int .i64 0, .int .i64 0, .int .i64 s]) ∧ New w w' := by
  go_enter Try.func9, Try.ntmps9
  go_wp2_with (go_at_call 23; refine (Hm.out _).mono ?_; rintro e w1 ⟨rfl, hu⟩; obtain ⟨k0, k1, k2, k3, k4, k5, kf0, kf1, kf2, kf3, kf4, kf5⟩ := blk6f (hu.heap (k := w.heap.size) (o := .cells #[.int .u8 3, .int .i64 g, .int .i64 s, .int .i64 f, .int .i64 b, .bool a] 27 (0, 0)) (by exact alloc31 _ _ _ _) (fun x => x)); obtain ⟨r0, r1, r2, r3, r4, r5, rf0, rf1, rf2, rf3, rf4, rf5⟩ := blk6f (hu.heap (k := w.heap.size + 1) (o := .cells #[.int .i64 rc, .int .i64 rg, .int .i64 rt, .bool rs, .bool ro, .bool ry] 29 (0, 0)) (by exact alloc32 _ _ _ _) (fun x => x)); obtain ⟨z0, z1, z2, z3, zf0, zf1, zf2, zf3⟩ := blk4f (hu.heap (k := w.heap.size + 1 + 1) (o := .cells #[.int .u8 0, .int .i64 0, .int .i64 0, .int .i64 0] 34 (0, 0)) (by exact alloc33 _ _ _ _) (fun x => x)); have hz := hu.heap (k := w.heap.size + 1 + 1) (o := .cells #[.int .u8 0, .int .i64 0, .int .i64 0, .int .i64 0] 34 (0, 0)) (by exact alloc33 _ _ _ _) (fun x => x); have HZ := Lib.hid hz; clear hz; have HU := Lib.hid hu; clear hu)
  refine bodyPost_ret (results_cell_row rfl _ _ (w.heap.size + 1 + 1) 34 #[.int .u8 24, .int .i64 0, .int .i64 0, .int .i64 s] (0, 0) _ rfl (by exact bset4 HZ.out) Try.underlying34 rfl size34) rfl ⟨rfl, ?_⟩
  refine finishN (F := fun k => w.heap.size ≤ k) ((((Upd.refl _ w).alloc _).alloc _).alloc _) HU.out ?_ (fun k hk => hk)
  repeat (with_reducible first | exact Upd.refl _ _ | refine Upd.set ?_ (by show _ ≤ _; omega) _)

theorem next_finish (g s f b : Int) (a : Bool) (rc rg rt : Int) (rs ro ry : Bool) (w : World) (Hm : Hid (∀ w, Calls Try.prog 23 #[.agg #[.int .u8 3, .int .i64 g, .int .i64 s, .int .i64 f, .int .i64 b, .bool a], .agg #[.int .i64 rc, .int .i64 rg, .int .i64 rt, .bool rs, .bool ro, .bool ry]] w fun e w' => e = .returned (.bool true) ∧ New w w')) (h1 : decide (s < rc) = false) :
    Calls Try.prog 9 #[.agg #[.int .u8 3, .int .i64 g, .int .i64 s, .int .i64 f, .int .i64 b, .bool a], .agg #[.int .i64 rc, .int .i64 rg, .int .i64 rt, .bool rs, .bool ro, .bool ry]] w fun e w' => e = .returned (.agg #[.int .u8 25, .int .i64 0, .int .i64 0, .int .i64 0]) ∧ New w w' := by
  go_enter Try.func9, Try.ntmps9
  go_wp2_with (go_at_call 23; refine (Hm.out _).mono ?_; rintro e w1 ⟨rfl, hu⟩; obtain ⟨k0, k1, k2, k3, k4, k5, kf0, kf1, kf2, kf3, kf4, kf5⟩ := blk6f (hu.heap (k := w.heap.size) (o := .cells #[.int .u8 3, .int .i64 g, .int .i64 s, .int .i64 f, .int .i64 b, .bool a] 27 (0, 0)) (by exact alloc31 _ _ _ _) (fun x => x)); obtain ⟨r0, r1, r2, r3, r4, r5, rf0, rf1, rf2, rf3, rf4, rf5⟩ := blk6f (hu.heap (k := w.heap.size + 1) (o := .cells #[.int .i64 rc, .int .i64 rg, .int .i64 rt, .bool rs, .bool ro, .bool ry] 29 (0, 0)) (by exact alloc32 _ _ _ _) (fun x => x)); obtain ⟨z0, z1, z2, z3, zf0, zf1, zf2, zf3⟩ := blk4f (hu.heap (k := w.heap.size + 1 + 1) (o := .cells #[.int .u8 0, .int .i64 0, .int .i64 0, .int .i64 0] 34 (0, 0)) (by exact alloc33 _ _ _ _) (fun x => x)); have hz := hu.heap (k := w.heap.size + 1 + 1) (o := .cells #[.int .u8 0, .int .i64 0, .int .i64 0, .int .i64 0] 34 (0, 0)) (by exact alloc33 _ _ _ _) (fun x => x); have HZ := Lib.hid hz; clear hz; have HU := Lib.hid hu; clear hu)
  refine bodyPost_ret (results_cell_row rfl _ _ (w.heap.size + 1 + 1) 34 #[.int .u8 25, .int .i64 0, .int .i64 0, .int .i64 0] (0, 0) _ rfl (by exact bset4 HZ.out) Try.underlying34 rfl size34) rfl ⟨rfl, ?_⟩
  refine finishN (F := fun k => w.heap.size ≤ k) ((((Upd.refl _ w).alloc _).alloc _).alloc _) HU.out ?_ (fun k hk => hk)
  repeat (with_reducible first | exact Upd.refl _ _ | refine Upd.set ?_ (by show _ ≤ _; omega) _)

theorem next_calls (c : Cyc) (r : Aro) (hph : 0 ≤ c.ph) (w : World) :
    Calls Try.prog 9 #[.agg #[.int .u8 c.ph, .int .i64 c.g, .int .i64 c.s, .int .i64 c.f, .int .i64 c.b, .bool c.a], .agg #[.int .i64 r.cells, .int .i64 r.globals, .int .i64 r.thread, .bool r.still, .bool r.told, .bool r.grey]] w fun e w' => e = .returned (.agg #[.int .u8 (nextD c r).w, .int .i64 (nextD c r).g, .int .i64 (nextD c r).t, .int .i64 (nextD c r).c]) ∧ New w w' := by
  have hm := fits_calls c r
  by_cases h0 : fitsB c r = true
  · rw [h0] at hm
    have hph3 : c.ph ≤ 3 := by
      have : mayB c = true := by simp [fitsB] at h0; exact h0.1
      simp [mayB] at this
      have := this.1.1
      unfold Cyc.bad at this
      omega
    rcases (by omega : c.ph = 0 ∨ c.ph = 1 ∨ c.ph = 2 ∨ c.ph = 3) with h | h | h | h
    · by_cases h1 : c.a = true
      · have hr : nextD c r = ⟨18, 0, 0, 0⟩ := by simp [nextD, h0, h, h1]
        rw [hr]; clear hr h0
        obtain ⟨ph, g, s, f, b, a⟩ := c
        obtain rfl : ph = 0 := h
        obtain rfl : a = true := h1
        exact next_idle1 _ _ _ _ _ _ _ _ _ _ w (Lib.hid hm)
      · have h1' : c.a = false := by simpa using h1
        have hr : nextD c r = ⟨0, 0, 0, 0⟩ := by simp [nextD, h0, h, h1]
        rw [hr]; clear hr h0 h1
        obtain ⟨ph, g, s, f, b, a⟩ := c
        obtain rfl : ph = 0 := h
        obtain rfl : a = false := h1'
        exact next_idle0 _ _ _ _ _ _ _ _ _ _ w (Lib.hid hm)
    · by_cases h1 : c.g < r.globals
      · have hr : nextD c r = ⟨19, c.g, 0, 0⟩ := by simp [nextD, h0, h, h1]
        rw [hr]; clear hr h0
        obtain ⟨ph, g, s, f, b, a⟩ := c
        obtain rfl : ph = 1 := h
        exact next_root _ _ _ _ _ _ _ _ _ _ _ w (Lib.hid hm) (decide_eq_true h1)
      · by_cases h2 : r.thread = 0
        · have hr : nextD c r = (if r.grey = true then ⟨22, 0, 0, 0⟩ else ⟨23, 0, 0, 0⟩) := by simp [nextD, h0, h, h1, h2]
          rw [hr]; clear hr h0
          obtain ⟨ph, g, s, f, b, a⟩ := c
          obtain ⟨rc, rg, rt, rs, ro, ry⟩ := r
          obtain rfl : ph = 1 := h
          cases ry
          · exact next_rootsfalse _ _ _ _ _ _ _ _ _ _ w (Lib.hid hm) (decide_eq_false h1) (by simpa using h2)
          · exact next_rootstrue _ _ _ _ _ _ _ _ _ _ w (Lib.hid hm) (decide_eq_false h1) (by simpa using h2)
        · have hr : nextD c r = threadD r := by simp [nextD, h0, h, h1, h2]
          rw [hr]; clear hr h0
          have ht := thread_calls r
          obtain ⟨ph, g, s, f, b, a⟩ := c
          obtain rfl : ph = 1 := h
          exact next_thread _ _ _ _ _ _ _ _ _ _ _ _ _ _ _ w (Lib.hid hm) (Lib.hid ht) (decide_eq_false h1) (by simpa using h2)
    · have hr : nextD c r = (if r.grey = true then ⟨22, 0, 0, 0⟩ else ⟨23, 0, 0, 0⟩) := by simp [nextD, h0, h]
      rw [hr]; clear hr h0
      obtain ⟨ph, g, s, f, b, a⟩ := c
      obtain ⟨rc, rg, rt, rs, ro, ry⟩ := r
      obtain rfl : ph = 2 := h
      cases ry
      · exact next_markfalse _ _ _ _ _ _ _ _ _ _ w (Lib.hid hm)
      · exact next_marktrue _ _ _ _ _ _ _ _ _ _ w (Lib.hid hm)
    · by_cases h1 : c.s < r.cells
      · have hr : nextD c r = ⟨24, 0, 0, c.s⟩ := by simp [nextD, h0, h, h1]
        rw [hr]; clear hr h0
        obtain ⟨ph, g, s, f, b, a⟩ := c
        obtain rfl : ph = 3 := h
        exact next_sweep _ _ _ _ _ _ _ _ _ _ _ w (Lib.hid hm) (decide_eq_true h1)
      · have hr : nextD c r = ⟨25, 0, 0, 0⟩ := by simp [nextD, h0, h, h1]
        rw [hr]; clear hr h0
        obtain ⟨ph, g, s, f, b, a⟩ := c
        obtain rfl : ph = 3 := h
        exact next_finish _ _ _ _ _ _ _ _ _ _ _ w (Lib.hid hm) (decide_eq_false h1)
  · have h0' : fitsB c r = false := by simpa using h0
    rw [h0'] at hm
    have hr : nextD c r = ⟨0, 0, 0, 0⟩ := by simp [nextD, h0']
    rw [hr]
    exact next_no _ _ _ _ _ _ _ _ _ _ _ _ w (Lib.hid hm)
end Go.Proofs.Ytgfabhioliljmaa
