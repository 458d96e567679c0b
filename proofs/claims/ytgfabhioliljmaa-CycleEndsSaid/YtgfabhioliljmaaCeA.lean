/- CycleEnds: what is around the collector, in plain words and in memory. -/
import Derived.Test.YtgfabhioliljmaaCyJ
namespace Go.Proofs.Ytgfabhioliljmaa
open Go.RowKit
set_option linter.unusedVariables false
set_option linter.unusedSimpArgs false

structure Lf where
  still : Bool
  late : Int
  born : Bool
  shade : Int
structure Wd where
  l : List Lf
  sc : List Bool
  td : List Bool
  lt : List Int
  grey : Int
  left : Int
def lifeC (x : Lf) : List Value := [.bool x.still, .int .i64 x.late, .bool x.born, .int .i64 x.shade]
def lifeCells (l : List Lf) : List Value := l.flatMap lifeC
def boolCells (l : List Bool) : List Value := l.map Value.bool
def intCells (l : List Int) : List Value := l.map (Value.int .i64)
/-- Which of n things the raw number c speaks of. -/
def pickI (c n : Int) : Int := if c < 0 then (-(c + 1)).tmod n else c.tmod n
theorem pickI_lt (c n : Int) (hn : 0 < n) : 0 ≤ pickI c n ∧ pickI c n < n := by
  unfold pickI
  split
  · exact ⟨Int.tmod_nonneg _ (by omega), Int.tmod_lt_of_pos _ hn⟩
  · exact ⟨Int.tmod_nonneg _ (by omega), Int.tmod_lt_of_pos _ hn⟩
def rankI (x : Int) : Int := if x = 18 then 0 else if x = 19 then 1 else if x = 20 ∨ x = 21 then 2 else if x = 22 then 3 else if x = 23 then 4 else if x = 24 then 5 else if x = 25 then 6 else -1
def Apart (u v : Value) : Prop := ∀ b, u.ownBlock = some b → v.ownBlock ≠ some b

/-- The world, in memory: at B; C is a block that it does not touch. -/
structure WAt (C : Nat → Prop) (B : Nat) (w : World) (x : Wd) (vl vs vt vn : Value) : Prop where
  box : w.heap[B]? = some (.cells #[vl, vs, vt, vn, .int .i64 x.grey, .int .i64 x.left] 45 (0, 0))
  rl : w.ownsRow (B + 1) 47 4 vl x.l.length (lifeCells x.l)
  rsc : w.ownsRow (B + 1) 4 1 vs x.sc.length (boolCells x.sc)
  rtd : w.ownsRow (B + 1) 4 1 vt x.td.length (boolCells x.td)
  rlt : w.ownsRow (B + 1) 3 1 vn x.lt.length (intCells x.lt)
  nvlvs : Apart vl vs
  nvlvt : Apart vl vt
  nvlvn : Apart vl vn
  nvsvt : Apart vs vt
  nvsvn : Apart vs vn
  nvtvn : Apart vt vn
  cvl : ∀ b, vl.ownBlock = some b → ¬ C b
  cvs : ∀ b, vs.ownBlock = some b → ¬ C b
  cvt : ∀ b, vt.ownBlock = some b → ¬ C b
  cvn : ∀ b, vn.ownBlock = some b → ¬ C b
  hC : ∀ b, C b → b < w.heap.size
section
variable {C : Nat → Prop} {B : Nat} {w w' : World} {x : Wd} {vl vs vt vn : Value}
theorem ownrow_lt {base : Nat} {e : TypeId} {size : Nat} {v : Value} {n : Nat} {xs : List Value} (h : w.ownsRow base e size v n xs) : ∀ k, v.ownBlock = some k → base ≤ k ∧ k < w.heap.size := by
  intro k hk
  rcases h.2 with ⟨rfl, _⟩ | ⟨g, cap, cur, rfl, hb, hg, _⟩
  · exact absurd hk (by simp [Value.ownBlock])
  · simp only [Value.ownBlock, Option.some.injEq] at hk
    subst hk
    exact ⟨hb, (Array.getElem?_eq_some_iff.1 hg).1⟩
theorem WAt.upd {F : Nat → Prop} (h : WAt C B w x vl vs vt vn) (hu : Upd F w w') (hB : ¬ F B) (hvl : ∀ b, vl.ownBlock = some b → ¬ F b) (hvs : ∀ b, vs.ownBlock = some b → ¬ F b) (hvt : ∀ b, vt.ownBlock = some b → ¬ F b) (hvn : ∀ b, vn.ownBlock = some b → ¬ F b) : WAt C B w' x vl vs vt vn :=
  ⟨hu.heap h.box hB, hu.ownsRow h.rl hvl, hu.ownsRow h.rsc hvs, hu.ownsRow h.rtd hvt, hu.ownsRow h.rlt hvn, h.nvlvs, h.nvlvt, h.nvlvn, h.nvsvt, h.nvsvn, h.nvtvn, h.cvl, h.cvs, h.cvt, h.cvn, fun b hb => Nat.lt_of_lt_of_le (h.hC b hb) hu.size⟩
theorem WAt.new (h : WAt C B w x vl vs vt vn) (hu : New w w') : WAt C B w' x vl vs vt vn := h.upd hu (fun x => x) (fun _ _ x => x) (fun _ _ x => x) (fun _ _ x => x) (fun _ _ x => x)
theorem WAt.neB (h : WAt C B w x vl vs vt vn) : vl.ownBlock ≠ some B ∧ vs.ownBlock ≠ some B ∧ vt.ownBlock ≠ some B ∧ vn.ownBlock ≠ some B :=
  ⟨(fun e => by have := (ownrow_lt h.rl B e).1; omega), (fun e => by have := (ownrow_lt h.rsc B e).1; omega), (fun e => by have := (ownrow_lt h.rtd B e).1; omega), (fun e => by have := (ownrow_lt h.rlt B e).1; omega)⟩
theorem WAt.grey (h : WAt C B w x vl vs vt vn) (g : Int) : WAt C B (w.setCell ⟨B, 4, none⟩ (.int .i64 g)) { x with grey := g } vl vs vt vn := by
  have hu : Upd (fun b => b = B) w (w.setCell ⟨B, 4, none⟩ (.int .i64 g)) := (Upd.refl (fun b => b = B) w).set rfl _
  obtain ⟨n1, n2, n3, n4⟩ := h.neB
  exact ⟨bset h.box 4 _, hu.ownsRow h.rl (fun b hb e => n1 (e ▸ hb)), hu.ownsRow h.rsc (fun b hb e => n2 (e ▸ hb)), hu.ownsRow h.rtd (fun b hb e => n3 (e ▸ hb)), hu.ownsRow h.rlt (fun b hb e => n4 (e ▸ hb)), h.nvlvs, h.nvlvt, h.nvlvn, h.nvsvt, h.nvsvn, h.nvtvn, h.cvl, h.cvs, h.cvt, h.cvn, by simpa [World.setCell] using h.hC⟩
theorem WAt.left (h : WAt C B w x vl vs vt vn) (g : Int) : WAt C B (w.setCell ⟨B, 5, none⟩ (.int .i64 g)) { x with left := g } vl vs vt vn := by
  have hu : Upd (fun b => b = B) w (w.setCell ⟨B, 5, none⟩ (.int .i64 g)) := (Upd.refl (fun b => b = B) w).set rfl _
  obtain ⟨n1, n2, n3, n4⟩ := h.neB
  exact ⟨bset h.box 5 _, hu.ownsRow h.rl (fun b hb e => n1 (e ▸ hb)), hu.ownsRow h.rsc (fun b hb e => n2 (e ▸ hb)), hu.ownsRow h.rtd (fun b hb e => n3 (e ▸ hb)), hu.ownsRow h.rlt (fun b hb e => n4 (e ▸ hb)), h.nvlvs, h.nvlvt, h.nvlvn, h.nvsvt, h.nvsvn, h.nvtvn, h.cvl, h.cvs, h.cvt, h.cvn, by simpa [World.setCell] using h.hC⟩
end
theorem pick_calls (c n : Int) (hn : 0 < n) (hc : -9223372036854775808 ≤ c ∧ c ≤ 9223372036854775807) (w : World) : Calls Try.prog 15 #[.int .i64 c, .int .i64 n] w fun e w' => e = .returned (.int .i64 (pickI c n)) ∧ New w w' := by
  have hnz : ¬ n = 0 := by omega
  by_cases h : c < 0
  · have h1 : IntKind.i64.wrap (c + 1) = c + 1 := IntWalk.i64_in _ (by omega)
    have h2 : IntKind.i64.wrap (-(c + 1)) = -(c + 1) := IntWalk.i64_in _ (by omega)
    go_enter Try.func15, Try.ntmps15
    go_wp2_with fail
    go_ret
    exact ⟨by simp [pickI, h], Upd.refl (fun _ => False) w⟩
  · have h3 : 0 ≤ c := by omega
    go_enter Try.func15, Try.ntmps15
    go_wp2_with fail
    go_ret
    refine ⟨?_, Upd.refl (fun _ => False) w⟩
    rw [pickI, if_neg (by omega), Int.tmod_eq_emod_of_nonneg h3]; rfl
theorem rank_calls (x : Int) (w : World) : Calls Try.prog 18 #[.int .u8 x] w fun e w' => e = .returned (.int .i64 (rankI x)) ∧ New w w' := by
  go_enter Try.func18, Try.ntmps18
  go_wp2_with fail
  all_goals
    go_ret
    refine ⟨?_, Upd.refl (fun _ => False) w⟩
    simp only [beq_iff_eq, beq_eq_false_iff_ne, ne_eq] at *
    simp [rankI, *]
def shadeW (k : Int) (x : Wd) : Wd := { x with grey := x.grey + min k x.left, left := x.left - min k x.left }
/-- What is turned: not C, and nothing ahead of the world. -/
def WF (C : Nat → Prop) (B : Nat) : Nat → Prop := fun b => B ≤ b ∧ ¬ C b
theorem shade_calls {C : Nat → Prop} {B : Nat} {w : World} {x : Wd} {vl vs vt vn : Value} (h : WAt C B w x vl vs vt vn) (hCB : ¬ C B) (k : Int) (hk : 0 ≤ k ∧ k ≤ 1000) (hg : 0 ≤ x.grey ∧ x.grey ≤ 1000) (hl : 0 ≤ x.left ∧ x.left ≤ 1000) :
    Calls Try.prog 19 #[.pointer (some ⟨B, 0, none⟩), .int .i64 k] w fun e w' => e = .returned (.tuple #[]) ∧ Upd (WF C B) w w' ∧ WAt C B w' (shadeW k x) vl vs vt vn := by
  obtain ⟨b0, b1, b2, b3, b4, b5, f0, f1, f2, f3, f4, f5⟩ := blk6f h.box
  have HW := Lib.hid h
  clear h
  by_cases hm : k ≤ x.left
  · have m1 : IntKind.i64.wrap (x.grey + k) = x.grey + k := IntWalk.i64_in _ (by omega)
    have m2 : IntKind.i64.wrap (x.left - k) = x.left - k := IntWalk.i64_in _ (by omega)
    have m3 : min k x.left = k := Int.min_eq_left hm
    go_enter Try.func19, Try.ntmps19
    go_wp2_with fail
    go_end0
    refine ⟨rfl, ((Upd.refl (WF C B) w).set ⟨Nat.le_refl _, hCB⟩ _).set ⟨Nat.le_refl _, hCB⟩ _, ?_⟩
    rw [shadeW, m3]
    exact (HW.out.grey _).left _
  · have m3 : min k x.left = x.left := Int.min_eq_right (by omega)
    have m1 : IntKind.i64.wrap (x.grey + x.left) = x.grey + x.left := IntWalk.i64_in _ (by omega)
    go_enter Try.func19, Try.ntmps19
    go_wp2_with fail
    go_end0
    refine ⟨rfl, ((Upd.refl (WF C B) w).set ⟨Nat.le_refl _, hCB⟩ _).set ⟨Nat.le_refl _, hCB⟩ _, ?_⟩
    rw [shadeW, m3, Int.sub_self]
    exact (HW.out.grey _).left _
theorem own_put {w : World} {base : Nat} {e : TypeId} {size g n cap : Nat} {xs : List Value} (h : w.ownsRow base e size (.slice (some ⟨g, 0, none⟩) n cap) n xs) (j : Nat) (u : Value) :
    (w.setCell ⟨g, j, none⟩ u).ownsRow base e size (.slice (some ⟨g, 0, none⟩) n cap) n (xs.set j u) := by
  obtain ⟨hl, h⟩ := h
  rcases h with ⟨h0, _⟩ | ⟨g', cap', cur, hv, hb, hg, hn, hc, hs, ht⟩
  · exact absurd h0 (by simp)
  · simp only [Value.slice.injEq, Option.some.injEq, Addr.mk.injEq] at hv
    obtain ⟨⟨rfl, _⟩, -, rfl⟩ := hv
    refine ⟨by simpa using hl, .inr ⟨g, cap, cur.setIfInBounds j u, rfl, hb, bset hg j u, hn, hc, by simpa using hs, ?_⟩⟩
    rw [Array.toList_setIfInBounds, List.take_set, ht]
theorem own_some {w : World} {base size n : Nat} {e : TypeId} {v : Value} {xs : List Value} (h : w.ownsRow base e size v n xs) (hn : 0 < n) : ∃ g cap, v = .slice (some ⟨g, 0, none⟩) n cap := by
  rcases h.2 with ⟨_, h0⟩ | ⟨g, cap, cur, rfl, _⟩
  · omega
  · exact ⟨g, cap, rfl⟩
theorem own_at {w : World} {base : Nat} {e : TypeId} {size : Nat} {g cap n : Nat} {xs : List Value} (h : w.ownsRow base e size (.slice (some ⟨g, 0, none⟩) n cap) n xs) (j : Nat) (u : Value) (hj : xs[j]? = some u) : w.cell? ⟨g, j, none⟩ = some u ∧ w.frozen? ⟨g, j, none⟩ = false := by
  rcases h.2 with ⟨h0, _⟩ | ⟨g', cap', cur, hv, hb, hg, _, _, _, ht⟩
  · exact absurd h0 (by simp)
  · simp only [Value.slice.injEq, Option.some.injEq, Addr.mk.injEq, and_true] at hv
    obtain ⟨rfl, _⟩ := hv
    rw [← ht, List.getElem?_take] at hj
    split at hj
    · rw [Array.getElem?_toList] at hj
      refine ⟨by simp [World.cell?, hg, hj], by simp [World.frozen?, hg]⟩
    · exact absurd hj (by simp)
theorem lifeC_length (x : Lf) : (lifeC x).length = 4 := rfl
theorem lifeCells_length (l : List Lf) : (lifeCells l).length = l.length * 4 := by
  induction l with
  | nil => rfl
  | cons a l ih => simp only [lifeCells, List.flatMap_cons, List.length_append, List.length_cons] at *; rw [ih, lifeC_length]; omega
theorem lifeCells_get (l : List Lf) (i : Nat) (hi : i < l.length) (r : Nat) (hr : r < 4) : (lifeCells l)[i * 4 + r]? = (lifeC l[i])[r]? := by
  induction l generalizing i with
  | nil => simp at hi
  | cons a l ih =>
    have hc := lifeC_length a
    cases i with
    | zero => simp only [lifeCells, List.flatMap_cons, List.getElem_cons_zero, Nat.zero_mul, Nat.zero_add]; rw [List.getElem?_append_left (by omega)]
    | succ i =>
      simp only [lifeCells, List.flatMap_cons, List.getElem_cons_succ]
      rw [List.getElem?_append_right (by omega), hc]
      have := ih i (by simpa using hi)
      rw [show (i + 1) * 4 + r - 4 = i * 4 + r by omega]
      exact this
theorem lifeCells_set (l : List Lf) (i : Nat) (hi : i < l.length) (b : Bool) : lifeCells (l.set i { l[i] with born := b }) = (lifeCells l).set (i * 4 + 2) (.bool b) := by
  induction l generalizing i with
  | nil => simp at hi
  | cons a l ih =>
    have hc := lifeC_length a
    cases i with
    | zero =>
      simp only [lifeCells, List.set_cons_zero, List.flatMap_cons, List.getElem_cons_zero]
      rfl
    | succ i =>
      have := ih i (by simpa using hi)
      simp only [lifeCells, List.set_cons_succ, List.flatMap_cons, List.getElem_cons_succ] at *
      rw [this, List.set_append_right _ _ (by omega), hc]
      congr 2
      omega
theorem boolCells_set (l : List Bool) (i : Nat) (b : Bool) : boolCells (l.set i b) = (boolCells l).set i (.bool b) := by simp [boolCells, List.map_set]
theorem intCells_set (l : List Int) (i : Nat) (b : Int) : intCells (l.set i b) = (intCells l).set i (.int .i64 b) := by simp [intCells, List.map_set]
theorem boolCells_get (l : List Bool) (i : Nat) (hi : i < l.length) : (boolCells l)[i]? = some (.bool l[i]) := by simp [boolCells, hi]
theorem intCells_get (l : List Int) (i : Nat) (hi : i < l.length) : (intCells l)[i]? = some (.int .i64 l[i]) := by simp [intCells, hi]
section
variable {C : Nat → Prop} {B : Nat} {w w' : World} {x : Wd} {vl vs vt vn : Value}
theorem WAt.set_l (h : WAt C B w x vl vs vt vn) {g n c : Nat} (hv : vl = .slice (some ⟨g, 0, none⟩) n c) (o : Nat) (u : Value) (y : List Lf) (hy : lifeCells y = (lifeCells x.l).set o u) (hlen : y.length = x.l.length) (hn : x.l.length = n) :
    WAt C B (w.setCell ⟨g, o, none⟩ u) { x with l := y } vl vs vt vn ∧ Upd (WF C B) w (w.setCell ⟨g, o, none⟩ u) := by
  subst hv
  have hu : Upd (fun b => b = g) w (w.setCell ⟨g, o, none⟩ u) := (Upd.refl (fun b => b = g) w).set rfl _
  have hb := ownrow_lt h.rl g rfl
  have hr : (w.setCell ⟨g, o, none⟩ u).ownsRow (B + 1) 47 4 (.slice (some ⟨g, 0, none⟩) n c) y.length (lifeCells y) := by
    have h0 := h.rl
    rw [hn] at h0
    rw [hlen, hn, hy]
    exact own_put h0 o u
  have hcg : ¬ C g := h.cvl g rfl
  refine ⟨⟨hu.heap h.box (by omega), hr, hu.ownsRow h.rsc (fun k hk e => h.nvlvs g rfl (e ▸ hk)), hu.ownsRow h.rtd (fun k hk e => h.nvlvt g rfl (e ▸ hk)), hu.ownsRow h.rlt (fun k hk e => h.nvlvn g rfl (e ▸ hk)), h.nvlvs, h.nvlvt, h.nvlvn, h.nvsvt, h.nvsvn, h.nvtvn, h.cvl, h.cvs, h.cvt, h.cvn, by simpa [World.setCell] using h.hC⟩, (Upd.refl (WF C B) w).set ⟨by omega, hcg⟩ _⟩
theorem WAt.set_sc (h : WAt C B w x vl vs vt vn) {g n c : Nat} (hv : vs = .slice (some ⟨g, 0, none⟩) n c) (o : Nat) (u : Value) (y : List Bool) (hy : boolCells y = (boolCells x.sc).set o u) (hlen : y.length = x.sc.length) (hn : x.sc.length = n) :
    WAt C B (w.setCell ⟨g, o, none⟩ u) { x with sc := y } vl vs vt vn ∧ Upd (WF C B) w (w.setCell ⟨g, o, none⟩ u) := by
  subst hv
  have hu : Upd (fun b => b = g) w (w.setCell ⟨g, o, none⟩ u) := (Upd.refl (fun b => b = g) w).set rfl _
  have hb := ownrow_lt h.rsc g rfl
  have hr : (w.setCell ⟨g, o, none⟩ u).ownsRow (B + 1) 4 1 (.slice (some ⟨g, 0, none⟩) n c) y.length (boolCells y) := by
    have h0 := h.rsc
    rw [hn] at h0
    rw [hlen, hn, hy]
    exact own_put h0 o u
  have hcg : ¬ C g := h.cvs g rfl
  refine ⟨⟨hu.heap h.box (by omega), hu.ownsRow h.rl (fun k hk e => h.nvlvs k hk (by rw [e]; rfl)), hr, hu.ownsRow h.rtd (fun k hk e => h.nvsvt g rfl (e ▸ hk)), hu.ownsRow h.rlt (fun k hk e => h.nvsvn g rfl (e ▸ hk)), h.nvlvs, h.nvlvt, h.nvlvn, h.nvsvt, h.nvsvn, h.nvtvn, h.cvl, h.cvs, h.cvt, h.cvn, by simpa [World.setCell] using h.hC⟩, (Upd.refl (WF C B) w).set ⟨by omega, hcg⟩ _⟩
theorem WAt.set_td (h : WAt C B w x vl vs vt vn) {g n c : Nat} (hv : vt = .slice (some ⟨g, 0, none⟩) n c) (o : Nat) (u : Value) (y : List Bool) (hy : boolCells y = (boolCells x.td).set o u) (hlen : y.length = x.td.length) (hn : x.td.length = n) :
    WAt C B (w.setCell ⟨g, o, none⟩ u) { x with td := y } vl vs vt vn ∧ Upd (WF C B) w (w.setCell ⟨g, o, none⟩ u) := by
  subst hv
  have hu : Upd (fun b => b = g) w (w.setCell ⟨g, o, none⟩ u) := (Upd.refl (fun b => b = g) w).set rfl _
  have hb := ownrow_lt h.rtd g rfl
  have hr : (w.setCell ⟨g, o, none⟩ u).ownsRow (B + 1) 4 1 (.slice (some ⟨g, 0, none⟩) n c) y.length (boolCells y) := by
    have h0 := h.rtd
    rw [hn] at h0
    rw [hlen, hn, hy]
    exact own_put h0 o u
  have hcg : ¬ C g := h.cvt g rfl
  refine ⟨⟨hu.heap h.box (by omega), hu.ownsRow h.rl (fun k hk e => h.nvlvt k hk (by rw [e]; rfl)), hu.ownsRow h.rsc (fun k hk e => h.nvsvt k hk (by rw [e]; rfl)), hr, hu.ownsRow h.rlt (fun k hk e => h.nvtvn g rfl (e ▸ hk)), h.nvlvs, h.nvlvt, h.nvlvn, h.nvsvt, h.nvsvn, h.nvtvn, h.cvl, h.cvs, h.cvt, h.cvn, by simpa [World.setCell] using h.hC⟩, (Upd.refl (WF C B) w).set ⟨by omega, hcg⟩ _⟩
theorem WAt.set_lt (h : WAt C B w x vl vs vt vn) {g n c : Nat} (hv : vn = .slice (some ⟨g, 0, none⟩) n c) (o : Nat) (u : Value) (y : List Int) (hy : intCells y = (intCells x.lt).set o u) (hlen : y.length = x.lt.length) (hn : x.lt.length = n) :
    WAt C B (w.setCell ⟨g, o, none⟩ u) { x with lt := y } vl vs vt vn ∧ Upd (WF C B) w (w.setCell ⟨g, o, none⟩ u) := by
  subst hv
  have hu : Upd (fun b => b = g) w (w.setCell ⟨g, o, none⟩ u) := (Upd.refl (fun b => b = g) w).set rfl _
  have hb := ownrow_lt h.rlt g rfl
  have hr : (w.setCell ⟨g, o, none⟩ u).ownsRow (B + 1) 3 1 (.slice (some ⟨g, 0, none⟩) n c) y.length (intCells y) := by
    have h0 := h.rlt
    rw [hn] at h0
    rw [hlen, hn, hy]
    exact own_put h0 o u
  have hcg : ¬ C g := h.cvn g rfl
  refine ⟨⟨hu.heap h.box (by omega), hu.ownsRow h.rl (fun k hk e => h.nvlvn k hk (by rw [e]; rfl)), hu.ownsRow h.rsc (fun k hk e => h.nvsvn k hk (by rw [e]; rfl)), hu.ownsRow h.rtd (fun k hk e => h.nvtvn k hk (by rw [e]; rfl)), hr, h.nvlvs, h.nvlvt, h.nvlvn, h.nvsvt, h.nvsvn, h.nvtvn, h.cvl, h.cvs, h.cvt, h.cvn, by simpa [World.setCell] using h.hC⟩, (Upd.refl (WF C B) w).set ⟨by omega, hcg⟩ _⟩
end
end Go.Proofs.Ytgfabhioliljmaa
