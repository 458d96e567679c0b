import Derived.Test.YtgfabhioliljmaaCyB
import Derived.Laws.ResultCell
import Derived.Laws.Rows
namespace Go.Proofs.Ytgfabhioliljmaa
open Go.RowKit
attribute [local go_sem high] eq27

theorem blk6f {w : World} {b : Nat} {t : TypeId} {v0 v1 v2 v3 v4 v5 : Value} (h : w.heap[b]? = some (.cells #[v0, v1, v2, v3, v4, v5] t (0, 0))) :
    w.cell? ⟨b, 0, none⟩ = some v0 ∧ w.cell? ⟨b, 1, none⟩ = some v1 ∧ w.cell? ⟨b, 2, none⟩ = some v2 ∧ w.cell? ⟨b, 3, none⟩ = some v3 ∧ w.cell? ⟨b, 4, none⟩ = some v4 ∧ w.cell? ⟨b, 5, none⟩ = some v5 ∧
    w.frozen? ⟨b, 0, none⟩ = false ∧ w.frozen? ⟨b, 1, none⟩ = false ∧ w.frozen? ⟨b, 2, none⟩ = false ∧ w.frozen? ⟨b, 3, none⟩ = false ∧ w.frozen? ⟨b, 4, none⟩ = false ∧ w.frozen? ⟨b, 5, none⟩ = false := by
  refine ⟨?_, ?_, ?_, ?_, ?_, ?_, ?_, ?_, ?_, ?_, ?_, ?_⟩ <;> simp [World.cell?, World.frozen?, h]
theorem blk4f {w : World} {b : Nat} {t : TypeId} {v0 v1 v2 v3 : Value} (h : w.heap[b]? = some (.cells #[v0, v1, v2, v3] t (0, 0))) :
    w.cell? ⟨b, 0, none⟩ = some v0 ∧ w.cell? ⟨b, 1, none⟩ = some v1 ∧ w.cell? ⟨b, 2, none⟩ = some v2 ∧ w.cell? ⟨b, 3, none⟩ = some v3 ∧
    w.frozen? ⟨b, 0, none⟩ = false ∧ w.frozen? ⟨b, 1, none⟩ = false ∧ w.frozen? ⟨b, 2, none⟩ = false ∧ w.frozen? ⟨b, 3, none⟩ = false := by
  refine ⟨?_, ?_, ?_, ?_, ?_, ?_, ?_, ?_⟩ <;> simp [World.cell?, World.frozen?, h]
theorem alloc31 (w : World) (o1 o2 o3 : Obj) : (((w.alloc o1).alloc o2).alloc o3).heap[w.heap.size]? = some o1 := (Below.heap_alloc _ _ _ (by simp; omega)).trans (alloc1 w o1 o2)
theorem alloc32 (w : World) (o1 o2 o3 : Obj) : (((w.alloc o1).alloc o2).alloc o3).heap[w.heap.size + 1]? = some o2 := (Below.heap_alloc _ _ _ (by simp)).trans (alloc2 w o1 o2)
theorem alloc33 (w : World) (o1 o2 o3 : Obj) : (((w.alloc o1).alloc o2).alloc o3).heap[w.heap.size + 1 + 1]? = some o3 := by have := heap_alloc_new ((w.alloc o1).alloc o2) o3; simpa using this


theorem results_row_tmp {P : Program} {fn : Func} {p u : Tmp} {ty : TypeId} (h : fn.results = #[.cell p ty, .tmp u]) (tmps : Array Value) (w : World) (g : Nat) (t : TypeId) (cs : Array Value) (d : TypeDesc)
    (hp : tmps.getD p undef = .pointer (some ⟨g, 0, none⟩)) (hg : w.heap[g]? = some (.cells cs t (0, 0)))
    (hu : P.underlying ty = some d) (hd : (match d with | .struct _ | .array _ _ => true | _ => false) = true) (hi : (P.info? ty).map (·.size) = some cs.size) (v : Value) (hv : tmps.getD u undef = v) :
    (results fn tmps).run P w = .ok (.tuple #[.agg cs, v]) w := by
  rw [results_cell_tmp h, hp, hv]
  have : (asAddr (.pointer (some ⟨g, 0, none⟩))).run P w = .ok ⟨g, 0, none⟩ w := rfl
  rw [this]
  simp [run_loadVar_row w g t ty cs (0, 0) d hg hu hd hi]
theorem bset {w : World} {g : Nat} {t : TypeId} {cs : Array Value} (h : w.heap[g]? = some (.cells cs t (0, 0))) (i : Nat) (u : Value) : (w.setCell ⟨g, i, none⟩ u).heap[g]? = some (.cells (cs.setIfInBounds i u) t (0, 0)) := heap_setCell_same w g i cs t u h
theorem bother {w : World} {g b i : Nat} {o : Obj} (h : w.heap[g]? = some o) (hne : g ≠ b) (u : Value) : (w.setCell ⟨b, i, none⟩ u).heap[g]? = some o := (heap_setCell_other w ⟨b, i, none⟩ g u hne).trans h
theorem bset6 {w : World} {g : Nat} {t : TypeId} {c0 c1 c2 c3 c4 c5 u0 u1 u2 u3 u4 u5 : Value} (h : w.heap[g]? = some (.cells #[c0, c1, c2, c3, c4, c5] t (0, 0))) :
    ((((((w.setCell ⟨g, 0, none⟩ u0).setCell ⟨g, 1, none⟩ u1).setCell ⟨g, 2, none⟩ u2).setCell ⟨g, 3, none⟩ u3).setCell ⟨g, 4, none⟩ u4).setCell ⟨g, 5, none⟩ u5).heap[g]? = some (.cells #[u0, u1, u2, u3, u4, u5] t (0, 0)) :=
  bset (bset (bset (bset (bset (bset h 0 u0) 1 u1) 2 u2) 3 u3) 4 u4) 5 u5
theorem bset4 {w : World} {g : Nat} {t : TypeId} {c0 c1 c2 c3 u0 u1 u2 u3 : Value} (h : w.heap[g]? = some (.cells #[c0, c1, c2, c3] t (0, 0))) :
    ((((w.setCell ⟨g, 0, none⟩ u0).setCell ⟨g, 1, none⟩ u1).setCell ⟨g, 2, none⟩ u2).setCell ⟨g, 3, none⟩ u3).heap[g]? = some (.cells #[u0, u1, u2, u3] t (0, 0)) :=
  bset (bset (bset (bset h 0 u0) 1 u1) 2 u2) 3 u3
theorem size27 : (Try.prog.info? 27).map (·.size) = some 6 := by kernel_rfl
theorem size34 : (Try.prog.info? 34).map (·.size) = some 4 := by kernel_rfl
theorem size29 : (Try.prog.info? 29).map (·.size) = some 6 := by kernel_rfl
/-- Stores into some new boxes. -/
theorem finishN {F : Nat → Prop} {w W w1 w2 : World} (hW : New w W) (hu : Upd (fun _ => False) W w1) (h : Upd F w1 w2) (hF : ∀ k, F k → w.heap.size ≤ k) : New w w2 :=
  (hW.trans hu).trans' h (fun i hi hx => by have := hF i hx; omega)

theorem begin_calls_form (ph g s f b : Int) (a : Bool) (w : World) (Hm : Hid (∀ w, Calls Try.prog 21 #[.agg #[.int .u8 ph, .int .i64 g, .int .i64 s, .int .i64 f, .int .i64 b, .bool a]] w fun e w' => e = .returned (.bool false) ∧ New w w')) :
    Calls Try.prog 7 #[.agg #[.int .u8 ph, .int .i64 g, .int .i64 s, .int .i64 f, .int .i64 b, .bool a]] w fun e w' => e = .returned (.tuple #[.agg #[.int .u8 0, .int .i64 0, .int .i64 0, .int .i64 0, .int .i64 0, .bool false], .int .i64 171]) ∧ New w w' := by
  go_enter Try.func7, Try.ntmps7
  go_wp2_with (go_at_call 21; refine (Hm.out _).mono ?_; rintro e w1 ⟨rfl, hu⟩; obtain ⟨k0, k1, k2, k3, k4, k5, kf0, kf1, kf2, kf3, kf4, kf5⟩ := blk6f (hu.heap (k := w.heap.size) (o := .cells #[.int .u8 ph, .int .i64 g, .int .i64 s, .int .i64 f, .int .i64 b, .bool a] 27 (0, 0)) (by exact alloc1 _ _ _) (fun x => x)); obtain ⟨z0, z1, z2, z3, z4, z5, zf0, zf1, zf2, zf3, zf4, zf5⟩ := blk6f (hu.heap (k := w.heap.size + 1) (o := .cells #[.int .u8 0, .int .i64 0, .int .i64 0, .int .i64 0, .int .i64 0, .bool false] 27 (0, 0)) (by exact alloc2 _ _ _) (fun x => x)); have hz := hu.heap (k := w.heap.size + 1) (o := .cells #[.int .u8 0, .int .i64 0, .int .i64 0, .int .i64 0, .int .i64 0, .bool false] 27 (0, 0)) (by exact alloc2 _ _ _) (fun x => x); have HZ := Lib.hid hz; clear hz; have HU := Lib.hid hu; clear hu)
  refine bodyPost_ret (results_row_tmp rfl _ _ (w.heap.size + 1) 27 #[.int .u8 0, .int .i64 0, .int .i64 0, .int .i64 0, .int .i64 0, .bool false] _ rfl (by exact bset6 HZ.out) Try.underlying27 rfl size27 (.int .i64 171) rfl) rfl ⟨rfl, ?_⟩
  refine finishN (F := fun k => w.heap.size ≤ k) (((Upd.refl _ w).alloc _).alloc _) HU.out ?_ (fun k hk => hk)
  repeat (with_reducible first | exact Upd.refl _ _ | refine Upd.set ?_ (by show _ ≤ _; omega) _)

theorem begin_calls_busya (ph g s f b : Int) (w : World) (Hm : Hid (∀ w, Calls Try.prog 21 #[.agg #[.int .u8 ph, .int .i64 g, .int .i64 s, .int .i64 f, .int .i64 b, .bool true]] w fun e w' => e = .returned (.bool true) ∧ New w w')) :
    Calls Try.prog 7 #[.agg #[.int .u8 ph, .int .i64 g, .int .i64 s, .int .i64 f, .int .i64 b, .bool true]] w fun e w' => e = .returned (.tuple #[.agg #[.int .u8 0, .int .i64 0, .int .i64 0, .int .i64 0, .int .i64 0, .bool false], .int .i64 170]) ∧ New w w' := by
  go_enter Try.func7, Try.ntmps7
  go_wp2_with (go_at_call 21; refine (Hm.out _).mono ?_; rintro e w1 ⟨rfl, hu⟩; obtain ⟨k0, k1, k2, k3, k4, k5, kf0, kf1, kf2, kf3, kf4, kf5⟩ := blk6f (hu.heap (k := w.heap.size) (o := .cells #[.int .u8 ph, .int .i64 g, .int .i64 s, .int .i64 f, .int .i64 b, .bool true] 27 (0, 0)) (by exact alloc1 _ _ _) (fun x => x)); obtain ⟨z0, z1, z2, z3, z4, z5, zf0, zf1, zf2, zf3, zf4, zf5⟩ := blk6f (hu.heap (k := w.heap.size + 1) (o := .cells #[.int .u8 0, .int .i64 0, .int .i64 0, .int .i64 0, .int .i64 0, .bool false] 27 (0, 0)) (by exact alloc2 _ _ _) (fun x => x)); have hz := hu.heap (k := w.heap.size + 1) (o := .cells #[.int .u8 0, .int .i64 0, .int .i64 0, .int .i64 0, .int .i64 0, .bool false] 27 (0, 0)) (by exact alloc2 _ _ _) (fun x => x); have HZ := Lib.hid hz; clear hz; have HU := Lib.hid hu; clear hu)
  refine bodyPost_ret (results_row_tmp rfl _ _ (w.heap.size + 1) 27 #[.int .u8 0, .int .i64 0, .int .i64 0, .int .i64 0, .int .i64 0, .bool false] _ rfl (by exact bset6 HZ.out) Try.underlying27 rfl size27 (.int .i64 170) rfl) rfl ⟨rfl, ?_⟩
  refine finishN (F := fun k => w.heap.size ≤ k) (((Upd.refl _ w).alloc _).alloc _) HU.out ?_ (fun k hk => hk)
  repeat (with_reducible first | exact Upd.refl _ _ | refine Upd.set ?_ (by show _ ≤ _; omega) _)

theorem begin_calls_busyb (ph g s f b : Int) (w : World) (Hm : Hid (∀ w, Calls Try.prog 21 #[.agg #[.int .u8 ph, .int .i64 g, .int .i64 s, .int .i64 f, .int .i64 b, .bool false]] w fun e w' => e = .returned (.bool true) ∧ New w w')) (hb : (ph != 0) = true) :
    Calls Try.prog 7 #[.agg #[.int .u8 ph, .int .i64 g, .int .i64 s, .int .i64 f, .int .i64 b, .bool false]] w fun e w' => e = .returned (.tuple #[.agg #[.int .u8 0, .int .i64 0, .int .i64 0, .int .i64 0, .int .i64 0, .bool false], .int .i64 170]) ∧ New w w' := by
  go_enter Try.func7, Try.ntmps7
  go_wp2_with (go_at_call 21; refine (Hm.out _).mono ?_; rintro e w1 ⟨rfl, hu⟩; obtain ⟨k0, k1, k2, k3, k4, k5, kf0, kf1, kf2, kf3, kf4, kf5⟩ := blk6f (hu.heap (k := w.heap.size) (o := .cells #[.int .u8 ph, .int .i64 g, .int .i64 s, .int .i64 f, .int .i64 b, .bool false] 27 (0, 0)) (by exact alloc1 _ _ _) (fun x => x)); obtain ⟨z0, z1, z2, z3, z4, z5, zf0, zf1, zf2, zf3, zf4, zf5⟩ := blk6f (hu.heap (k := w.heap.size + 1) (o := .cells #[.int .u8 0, .int .i64 0, .int .i64 0, .int .i64 0, .int .i64 0, .bool false] 27 (0, 0)) (by exact alloc2 _ _ _) (fun x => x)); have hz := hu.heap (k := w.heap.size + 1) (o := .cells #[.int .u8 0, .int .i64 0, .int .i64 0, .int .i64 0, .int .i64 0, .bool false] 27 (0, 0)) (by exact alloc2 _ _ _) (fun x => x); have HZ := Lib.hid hz; clear hz; have HU := Lib.hid hu; clear hu)
  refine bodyPost_ret (results_row_tmp rfl _ _ (w.heap.size + 1) 27 #[.int .u8 0, .int .i64 0, .int .i64 0, .int .i64 0, .int .i64 0, .bool false] _ rfl (by exact bset6 HZ.out) Try.underlying27 rfl size27 (.int .i64 170) rfl) rfl ⟨rfl, ?_⟩
  refine finishN (F := fun k => w.heap.size ≤ k) (((Upd.refl _ w).alloc _).alloc _) HU.out ?_ (fun k hk => hk)
  repeat (with_reducible first | exact Upd.refl _ _ | refine Upd.set ?_ (by show _ ≤ _; omega) _)

theorem begin_calls_ok (g s f b : Int) (w : World) (Hm : Hid (∀ w, Calls Try.prog 21 #[.agg #[.int .u8 0, .int .i64 g, .int .i64 s, .int .i64 f, .int .i64 b, .bool false]] w fun e w' => e = .returned (.bool true) ∧ New w w')) :
    Calls Try.prog 7 #[.agg #[.int .u8 0, .int .i64 g, .int .i64 s, .int .i64 f, .int .i64 b, .bool false]] w fun e w' => e = .returned (.tuple #[.agg #[.int .u8 0, .int .i64 g, .int .i64 s, .int .i64 f, .int .i64 b, .bool true], .int .i64 0]) ∧ New w w' := by
  go_enter Try.func7, Try.ntmps7
  go_wp2_with (go_at_call 21; refine (Hm.out _).mono ?_; rintro e w1 ⟨rfl, hu⟩; obtain ⟨k0, k1, k2, k3, k4, k5, kf0, kf1, kf2, kf3, kf4, kf5⟩ := blk6f (hu.heap (k := w.heap.size) (o := .cells #[.int .u8 0, .int .i64 g, .int .i64 s, .int .i64 f, .int .i64 b, .bool false] 27 (0, 0)) (by exact alloc1 _ _ _) (fun x => x)); obtain ⟨z0, z1, z2, z3, z4, z5, zf0, zf1, zf2, zf3, zf4, zf5⟩ := blk6f (hu.heap (k := w.heap.size + 1) (o := .cells #[.int .u8 0, .int .i64 0, .int .i64 0, .int .i64 0, .int .i64 0, .bool false] 27 (0, 0)) (by exact alloc2 _ _ _) (fun x => x)); have hz := hu.heap (k := w.heap.size + 1) (o := .cells #[.int .u8 0, .int .i64 0, .int .i64 0, .int .i64 0, .int .i64 0, .bool false] 27 (0, 0)) (by exact alloc2 _ _ _) (fun x => x); have HZ := Lib.hid hz; clear hz; have HU := Lib.hid hu; clear hu)
  refine bodyPost_ret (results_row_tmp rfl _ _ (w.heap.size + 1) 27 #[.int .u8 0, .int .i64 g, .int .i64 s, .int .i64 f, .int .i64 b, .bool true] _ rfl (by exact bset6 (bother HZ.out (by omega) _)) Try.underlying27 rfl size27 (.int .i64 0) rfl) rfl ⟨rfl, ?_⟩
  refine finishN (F := fun k => w.heap.size ≤ k) (((Upd.refl _ w).alloc _).alloc _) HU.out ?_ (fun k hk => hk)
  repeat (with_reducible first | exact Upd.refl _ _ | refine Upd.set ?_ (by show _ ≤ _; omega) _)

theorem begin_calls (c : Cyc) (w : World) :
    Calls Try.prog 7 #[.agg #[.int .u8 c.ph, .int .i64 c.g, .int .i64 c.s, .int .i64 c.f, .int .i64 c.b, .bool c.a]] w fun e w' => e = .returned (.tuple #[.agg #[.int .u8 (beginC c).1.ph, .int .i64 (beginC c).1.g, .int .i64 (beginC c).1.s, .int .i64 (beginC c).1.f, .int .i64 (beginC c).1.b, .bool (beginC c).1.a], .int .i64 (beginC c).2]) ∧ New w w' := by
  have hm := may_calls c
  by_cases h0 : mayB c = true
  · rw [h0] at hm
    by_cases h1 : c.a = true
    · have hr : beginC c = (zeroC, 170) := by simp [beginC, h0, h1]
      rw [hr]
      clear hr h0
      obtain ⟨ph, g, s, f, b, a⟩ := c
      obtain rfl : a = true := h1
      exact begin_calls_busya _ _ _ _ _ w (Lib.hid hm)
    · have h1' : c.a = false := by simpa using h1
      by_cases h2 : c.ph = 0
      · have hr : beginC c = (⟨c.ph, c.g, c.s, c.f, c.b, true⟩, 0) := by simp [beginC, h0, h1, h2]
        rw [hr]
        clear hr h0 h1
        obtain ⟨ph, g, s, f, b, a⟩ := c
        obtain rfl : a = false := h1'
        obtain rfl : ph = 0 := h2
        exact begin_calls_ok _ _ _ _ w (Lib.hid hm)
      · have hr : beginC c = (zeroC, 170) := by simp [beginC, h0, h1, h2]
        have h2b : (c.ph != 0) = true := by rw [bne_iff_ne]; exact h2
        rw [hr]
        clear hr h0 h1 h2
        obtain ⟨ph, g, s, f, b, a⟩ := c
        obtain rfl : a = false := h1'
        exact begin_calls_busyb _ _ _ _ _ w (Lib.hid hm) h2b
  · have h0' : mayB c = false := by simpa using h0
    rw [h0'] at hm
    have hr : beginC c = (zeroC, 171) := by simp [beginC, h0']
    rw [hr]
    obtain ⟨ph, g, s, f, b, a⟩ := c
    exact begin_calls_form _ _ _ _ _ _ w (Lib.hid hm)
end Go.Proofs.Ytgfabhioliljmaa
