/- CycleEnds: a thread brings up another one. -/
import Derived.Test.YtgfabhioliljmaaCeD
import Derived.RegionDies
import Derived.Deep.AppendLies
import Derived.Deep.RegionLaw
namespace Go.Proofs.Ytgfabhioliljmaa
open Go.RowKit
set_option linter.unusedVariables false
set_option linter.unusedSimpArgs false

def bornB (i : Nat) (x : Wd) : Bool := match x.l[i]? with | some v => v.born | none => false
def lfW (i : Nat) (x : Wd) : Lf := match x.l[i]? with | some v => v | none => ⟨false, 0, false, 0⟩
def bornW (i : Nat) (x : Wd) : Wd := if bornB i x = true ∧ x.l.length < 8 then { x with l := x.l.set i { lfW i x with born := false } ++ [⟨false, 0, false, shdW i x⟩], sc := x.sc ++ [false], td := x.td ++ [false], lt := x.lt ++ [0] } else x
theorem heap_alloc2 {w : World} {g : Nat} {o : Obj} (h : w.heap[g]? = some o) (o1 : Obj) : (w.alloc o1).heap[g]? = some o :=
  (Below.heap_alloc _ _ _ (Array.getElem?_eq_some_iff.1 h).1).trans h
set_option maxHeartbeats 4000000 in
theorem born_calls {C : Nat → Prop} {B : Nat} {w : World} {x : Wd} {vl vs vt vn : Value} (h : WAt C B w x vl vs vt vn) (hCB : ¬ C B) (ho : WOk x) (i : Nat) (hi : i < x.l.length) :
    Calls Try.prog 20 #[.pointer (some ⟨B, 0, none⟩), .int .i64 i] w fun e w' => e = .returned (.tuple #[]) ∧ Upd (WF C B) w w' ∧ ∃ vl' vs' vt' vn', WAt C B w' (bornW i x) vl' vs' vt' vn' := by
  have hs := ho.ns
  have ht := ho.nt
  have hn := ho.nn
  have h8 := ho.n8
  have hBl := (Array.getElem?_eq_some_iff.1 h.box).1
  obtain ⟨gl, cl, rfl⟩ := own_some h.rl (by omega)
  have c0 := own_at h.rl (i * 4 + 2) _ ((lifeCells_get x.l i hi 2 (by omega)).trans rfl)
  obtain ⟨c0, d0⟩ := c0
  obtain ⟨b0, b1, b2, b3, b4, b5, f0, f1, f2, f3, f4, f5⟩ := blk6f h.box
  have i0 : (0 : Int) ≤ i := by omega
  have i1 : (i : Int) < x.l.length := by omega
  have hR : bornW i x = if x.l[i].born = true ∧ x.l.length < 8 then { x with l := x.l.set i { x.l[i] with born := false } ++ [⟨false, 0, false, x.l[i].shade⟩], sc := x.sc ++ [false], td := x.td ++ [false], lt := x.lt ++ [0] } else x := by simp [bornW, bornB, lfW, shdW, hi]
  rw [hR]
  clear hR
  have HW := Lib.hid h
  have HO := Lib.hid ho
  by_cases hb : x.l[i].born = true ∧ x.l.length < 8
  · rw [if_pos hb]
    obtain ⟨hb1, hb2⟩ := hb
    obtain ⟨i47, hi47, hz470, hz471, hz472⟩ := info_parts info47
    obtain ⟨i4, hi4, hz40, hz41, hz42⟩ := info_parts info4
    obtain ⟨i3, hi3, hz30, hz31, hz32⟩ := info_parts info3
    obtain ⟨xl, hxl⟩ : ∃ y, y = x.l.set i { x.l[i] with born := false } := ⟨_, rfl⟩
    obtain ⟨hset, hset2⟩ := h.set_l rfl (i * 4 + 2) (.bool false) xl (by rw [hxl]; exact lifeCells_set x.l i hi false) (by rw [hxl]; simp) rfl
    have hlen : xl.length = x.l.length := by rw [hxl]; simp
    have hsh : xl[i]'(by omega) = { x.l[i] with born := false } := by subst hxl; simp
    rw [← hxl]
    have q0 : (x.l.length : Int) < 8 := by omega
    have q1 : (i : Int) < xl.length := by omega
    rw [hb1] at c0
    generalize hL : x.l[i] = L at *
    clear hL hxl h ho
    go_enter Try.func20, Try.ntmps20
    go_wp2_with fail
    generalize w.setCell ⟨gl, i * 4 + 2, none⟩ (.bool false) = w2 at *
    have HS2 := Lib.hid hset2
    rw [show x.l.length = xl.length from hlen.symm] at hset
    have HS := Lib.hid hset
    clear c0 d0 b0 b1 b2 b3 b4 b5 f0 f1 f2 f3 f4 f5
    obtain ⟨b0, b1, b2, b3, b4, b5, f0, f1, f2, f3, f4, f5⟩ := blk6f hset.box
    have hrl : w2.ownsRow (B + 1) 47 4 (.slice (some ⟨gl, 0, none⟩) xl.length cl) xl.length (lifeCells xl) := hset.rl
    have hBl2 := (Array.getElem?_eq_some_iff.1 hset.box).1
    obtain ⟨c0, d0⟩ := own_at hrl (i * 4 + 3) (.int .i64 L.shade) ((lifeCells_get xl i (by omega) 3 (by omega)).trans (by rw [hsh]; rfl))
    have HROW := Lib.hid hrl
    have M1 := Lib.hid (show xl.length + 1 ≤ maxLen by unfold maxLen; omega)
    have M2 := Lib.hid (show (xl.length + 1) * 32 ≤ 140737488355328 by omega)
    have HBX := Lib.hid ((heap_alloc2 hset.box (.cells #[.bool false, .int .i64 0, .bool false, .int .i64 L.shade] 47)))
    have hne : B ≠ gl := fun e => by have := (ownrow_lt hrl gl rfl).1; omega
    have HNE := Lib.hid hne
    have HLEN := Lib.hid hlen
    clear hset hset2 hrl hsh hne hlen
    refine wp_region_noPanic ?_
    have HROW1 : Hid ((w2.alloc (.cells #[.bool false, .int .i64 0, .bool false, .int .i64 L.shade] 47)).drew.ownsRow (B + 1) 47 4 (.slice (some ⟨gl, 0, none⟩) xl.length cl) xl.length (lifeCells xl)) := Lib.hid (HROW.out.alloc (.cells #[.bool false, .int .i64 0, .bool false, .int .i64 L.shade] 47)).drew
    have HSRC : Hid (SrcRow (w2.alloc (.cells #[.bool false, .int .i64 0, .bool false, .int .i64 L.shade] 47)).drew 4 (.slice (some ⟨w2.heap.size, 0, none⟩) 1 1) 1 (lifeCells [⟨false, 0, false, L.shade⟩])) := Lib.hid (.inr ⟨w2.heap.size, 1, rfl, rfl, World.news_of_block (w := (w2.alloc (.cells #[.bool false, .int .i64 0, .bool false, .int .i64 L.shade] 47)).drew) (by exact heap_alloc_new w2 (.cells #[.bool false, .int .i64 0, .bool false, .int .i64 L.shade] 47))⟩)
    have HUP : Hid (New w2 (w2.alloc (.cells #[.bool false, .int .i64 0, .bool false, .int .i64 L.shade] 47)).drew) := Lib.hid ((Upd.refl (fun _ => False) w2).alloc (.cells #[.bool false, .int .i64 0, .bool false, .int .i64 L.shade] 47)).drew
    have HBX1 : Hid ((w2.alloc (.cells #[.bool false, .int .i64 0, .bool false, .int .i64 L.shade] 47)).drew.heap[B]? = some (.cells #[.slice (some ⟨gl, 0, none⟩) xl.length cl, vs, vt, vn, .int .i64 x.grey, .int .i64 x.left] 45 (0, 0))) := Lib.hid (by exact HBX.out)
    have HSZ : Hid (B + 1 ≤ (w2.alloc (.cells #[.bool false, .int .i64 0, .bool false, .int .i64 L.shade] 47)).drew.heap.size) := Lib.hid (by show B + 1 ≤ (w2.alloc (.cells #[.bool false, .int .i64 0, .bool false, .int .i64 L.shade] 47)).heap.size; simp; omega)
    generalize hW3 : (w2.alloc (.cells #[.bool false, .int .i64 0, .bool false, .int .i64 L.shade] 47)).drew = w3 at HROW1 HSRC HUP HBX1 HSZ
    obtain ⟨k0, k1, k2, k3, k4, k5, kf0, kf1, kf2, kf3, kf4, kf5⟩ := blk6f HBX1.out
    have c03 := HUP.out.cell c0 (fun x => x)
    have d03 : w3.frozen? ⟨gl, i * 4 + 3, none⟩ = false := (HUP.out.frozen (by exact (ownrow_lt HROW.out gl rfl).2) (fun x => x)).trans d0
    go_region_law (first
      | (go_loud (refine step_append_row w3 (by rfl) (.tmp 31) (.tmp 41) 39 (by rfl) (B + 1) 47 i47 _ 4 32 Try.underlying39 hi47 hz470 hz471 hz472 rfl (by decide) (.slice (some ⟨gl, 0, none⟩) xl.length cl) xl.length (lifeCells xl) (by rfl) HROW1.out (.slice (some ⟨w2.heap.size, 0, none⟩) 1 1) 1 (lifeCells [⟨false, 0, false, L.shade⟩]) (by rfl) HSRC.out (one_life _) M1.out M2.out HSZ.out ?_); intro v1 w4 ho4 hg4 hat4; obtain ⟨g1, c1, rfl⟩ := own_some ho4 (Nat.succ_pos _); have HT := Lib.hid (HS.out.app_l hCB HUP.out [⟨false, 0, false, L.shade⟩] ho4 hg4 hat4); obtain ⟨e0, e1, e2, e3, e4, e5, p0, p1, p2, p3, p4, p5⟩ := blk6f (((Upd.refl (fun b => b = gl) w3).grown hg4 (fun b hb _ => by simpa [Value.ownBlock] using hb.symm)).heap HBX1.out HNE.out); clear ho4 hg4 hat4))
    all_goals
      simp only [NoPanic, Exit.then]
      have HT1 := Lib.hid HT.out.1
      have HT2 := Lib.hid (HS2.out.trans HT.out.2)
      clear HT e0 e1 e2 e3 e4 e5 p0 p1 p2 p3 p4 p5 k0 k1 k2 k3 k4 k5 kf0 kf1 kf2 kf3 kf4 kf5 c03 d03 b0 b1 b2 b3 b4 b5 f0 f1 f2 f3 f4 f5 c0 d0 HBX1 HSZ HUP HSRC HROW1 hW3 HBX
      generalize w4.setCell ⟨B, 0, none⟩ (.slice (some ⟨g1, 0, none⟩) (xl.length + 1) c1) = w5 at *
      have MS1 := Lib.hid (show x.sc.length + 1 ≤ maxLen by unfold maxLen; omega)
      have MS2 := Lib.hid (show (x.sc.length + 1) * 1 ≤ 140737488355328 by omega)
      have MT1 := Lib.hid (show x.td.length + 1 ≤ maxLen by unfold maxLen; omega)
      have MT2 := Lib.hid (show (x.td.length + 1) * 1 ≤ 140737488355328 by omega)
      have MN1 := Lib.hid (show x.lt.length + 1 ≤ maxLen by unfold maxLen; omega)
      have MN2 := Lib.hid (show (x.lt.length + 1) * 8 ≤ 140737488355328 by omega)
      clear hs ht hn
      obtain ⟨b0, b1, b2, b3, b4, b5, f0, f1, f2, f3, f4, f5⟩ := blk6f HT1.out.box
      have HSZ3 := Lib.hid (show B + 1 ≤ (w5.alloc (.cells #[.bool false] 4)).heap.size by have := (Array.getElem?_eq_some_iff.1 HT1.out.box).1; simp; omega)
      go_upto_region 4 with (at_builtin; go_loud (refine wpList_append_row (w5.alloc (.cells #[.bool false] 4)) (by rfl) (.tmp 49) (.tmp 50) 40 (by rfl) (B + 1) 4 i4 _ 1 1 Try.underlying40 hi4 hz40 hz41 hz42 rfl (by decide) vs x.sc.length (boolCells x.sc) (by rfl) (HT1.out.rsc.alloc (.cells #[.bool false] 4)) (.slice (some ⟨w5.heap.size, 0, none⟩) 1 1) 1 (boolCells [false]) (by rfl) (.inr ⟨w5.heap.size, 1, rfl, rfl, World.news_of_block (heap_alloc_new w5 (.cells #[.bool false] 4))⟩) (one_bool _) MS1.out MS2.out HSZ3.out ?_); intro v3 w6 ho3 hg3 hat3; obtain ⟨A3, c3, rfl⟩ := own_form ho3; have HT3 := Lib.hid (HT1.out.app_sc hCB ((Upd.refl (fun _ => False) w5).alloc (.cells #[.bool false] 4)) [false] ho3 hg3 hat3); obtain ⟨e0, e1, e2, e3, e4, e5, p0, p1, p2, p3, p4, p5⟩ := blk6f (((Upd.refl (fun b => vs.ownBlock = some b) (w5.alloc (.cells #[.bool false] 4))).grown hg3 (fun b hb _ => hb)).heap (heap_alloc2 HT1.out.box (.cells #[.bool false] 4)) (fun e => HT1.out.neB.2.1 e)); clear ho3 hg3 hat3 b0 b1 b2 b3 b4 b5 f0 f1 f2 f3 f4 f5)
      have HU1 := Lib.hid HT3.out.1
      have HU2 := Lib.hid (HT2.out.trans HT3.out.2)
      clear HT3 e0 e1 e2 e3 e4 e5 p0 p1 p2 p3 p4 p5
      generalize w6.setCell ⟨B, 1, none⟩ (.slice A3 (x.sc.length + 1) c3) = w7 at *
      obtain ⟨b0, b1, b2, b3, b4, b5, f0, f1, f2, f3, f4, f5⟩ := blk6f HU1.out.box
      have HSZ4 := Lib.hid (show B + 1 ≤ (w7.alloc (.cells #[.bool false] 4)).heap.size by have := (Array.getElem?_eq_some_iff.1 HU1.out.box).1; simp; omega)
      go_upto_region 5 with (at_builtin; go_loud (refine wpList_append_row (w7.alloc (.cells #[.bool false] 4)) (by rfl) (.tmp 58) (.tmp 59) 40 (by rfl) (B + 1) 4 i4 _ 1 1 Try.underlying40 hi4 hz40 hz41 hz42 rfl (by decide) vt x.td.length (boolCells x.td) (by rfl) (HU1.out.rtd.alloc (.cells #[.bool false] 4)) (.slice (some ⟨w7.heap.size, 0, none⟩) 1 1) 1 (boolCells [false]) (by rfl) (.inr ⟨w7.heap.size, 1, rfl, rfl, World.news_of_block (heap_alloc_new w7 (.cells #[.bool false] 4))⟩) (one_bool _) MT1.out MT2.out HSZ4.out ?_); intro v4 w8 ho4 hg4 hat4; obtain ⟨A4, c4, rfl⟩ := own_form ho4; have HT4 := Lib.hid (HU1.out.app_td hCB ((Upd.refl (fun _ => False) w7).alloc (.cells #[.bool false] 4)) [false] ho4 hg4 hat4); obtain ⟨e0, e1, e2, e3, e4, e5, p0, p1, p2, p3, p4, p5⟩ := blk6f (((Upd.refl (fun b => vt.ownBlock = some b) (w7.alloc (.cells #[.bool false] 4))).grown hg4 (fun b hb _ => hb)).heap (heap_alloc2 HU1.out.box (.cells #[.bool false] 4)) (fun e => HU1.out.neB.2.2.1 e)); clear ho4 hg4 hat4 b0 b1 b2 b3 b4 b5 f0 f1 f2 f3 f4 f5)
      have HV1 := Lib.hid HT4.out.1
      have HV2 := Lib.hid (HU2.out.trans HT4.out.2)
      clear HT4 e0 e1 e2 e3 e4 e5 p0 p1 p2 p3 p4 p5
      generalize w8.setCell ⟨B, 2, none⟩ (.slice A4 (x.td.length + 1) c4) = w9 at *
      obtain ⟨b0, b1, b2, b3, b4, b5, f0, f1, f2, f3, f4, f5⟩ := blk6f HV1.out.box
      have HSZ5 := Lib.hid (show B + 1 ≤ (w9.alloc (.cells #[.int .i64 0] 3)).heap.size by have := (Array.getElem?_eq_some_iff.1 HV1.out.box).1; simp; omega)
      go_wp2_with (at_builtin; go_loud (refine wpList_append_row (w9.alloc (.cells #[.int .i64 0] 3)) (by rfl) (.tmp 67) (.tmp 68) 43 (by rfl) (B + 1) 3 i3 _ 1 8 Try.underlying43 hi3 hz30 hz31 hz32 rfl (by decide) vn x.lt.length (intCells x.lt) (by rfl) (HV1.out.rlt.alloc (.cells #[.int .i64 0] 3)) (.slice (some ⟨w9.heap.size, 0, none⟩) 1 1) 1 (intCells [0]) (by rfl) (.inr ⟨w9.heap.size, 1, rfl, rfl, World.news_of_block (heap_alloc_new w9 (.cells #[.int .i64 0] 3))⟩) (one_int _) MN1.out MN2.out HSZ5.out ?_); intro v5 w10 ho5 hg5 hat5; obtain ⟨A5, c5, rfl⟩ := own_form ho5; have HT5 := Lib.hid (HV1.out.app_lt hCB ((Upd.refl (fun _ => False) w9).alloc (.cells #[.int .i64 0] 3)) [0] ho5 hg5 hat5); obtain ⟨e0, e1, e2, e3, e4, e5, p0, p1, p2, p3, p4, p5⟩ := blk6f (((Upd.refl (fun b => vn.ownBlock = some b) (w9.alloc (.cells #[.int .i64 0] 3))).grown hg5 (fun b hb _ => hb)).heap (heap_alloc2 HV1.out.box (.cells #[.int .i64 0] 3)) (fun e => HV1.out.neB.2.2.2 e)); clear ho5 hg5 hat5 b0 b1 b2 b3 b4 b5 f0 f1 f2 f3 f4 f5)
      have HX1 := Lib.hid HT5.out.1
      have HX2 := Lib.hid (HV2.out.trans HT5.out.2)
      clear HT5 e0 e1 e2 e3 e4 e5 p0 p1 p2 p3 p4 p5
      go_end0
      exact ⟨rfl, HX2.out, _, _, _, _, HX1.out⟩
  · rw [if_neg hb]
    clear h ho hs ht hn
    cases hb1 : x.l[i].born with
    | false =>
      rw [hb1] at c0
      go_enter Try.func20, Try.ntmps20
      go_wp2_with fail
      go_end0
      exact ⟨rfl, Upd.refl (WF C B) w, _, _, _, _, HW.out⟩
    | true =>
      have hb2 : ¬ (x.l.length : Int) < 8 := fun h => hb ⟨hb1, by omega⟩
      rw [hb1] at c0
      go_enter Try.func20, Try.ntmps20
      go_wp2_with fail
      go_end0
      exact ⟨rfl, Upd.refl (WF C B) w, _, _, _, _, HW.out⟩
end Go.Proofs.Ytgfabhioliljmaa
