/- CycleEnds: a thread lays its roots. -/
import Derived.Test.YtgfabhioliljmaaCeA
namespace Go.Proofs.Ytgfabhioliljmaa
open Go.RowKit
set_option linter.unusedVariables false
set_option linter.unusedSimpArgs false

def latW (i : Nat) (x : Wd) : Int := match x.lt[i]? with | some v => v | none => 0
def shdW (i : Nat) (x : Wd) : Int := match x.l[i]? with | some v => v.shade | none => 0
def laysW (i : Nat) (x : Wd) : Wd := if 0 < latW i x then { x with lt := x.lt.set i (latW i x - 1) } else shadeW (pickI (shdW i x) 5) { x with sc := x.sc.set i true }
/-- The lists are as long as one another, and what is grey or can be is small. -/
structure WOk (x : Wd) : Prop where
  ns : x.sc.length = x.l.length
  nt : x.td.length = x.l.length
  nn : x.lt.length = x.l.length
  n8 : x.l.length ≤ 8
  g0 : 0 ≤ x.grey
  l0 : 0 ≤ x.left
  gl : x.grey + x.left ≤ 300
  lat : ∀ v ∈ x.lt, 0 ≤ v ∧ v ≤ 3
  shd : ∀ v ∈ x.l, -9223372036854775808 ≤ v.shade ∧ v.shade ≤ 9223372036854775807
theorem WOk.shade {x : Wd} (h : WOk x) (k : Int) (hk : 0 ≤ k) : WOk (shadeW k x) := by
  obtain ⟨h1, h2, h3, h4, h5, h6, h7, h8, h9⟩ := h
  exact ⟨h1, h2, h3, h4, (by simp only [shadeW]; omega), (by simp only [shadeW]; omega), (by simp only [shadeW]; omega), h8, h9⟩
set_option maxHeartbeats 4000000 in
theorem lays_calls {C : Nat → Prop} {B : Nat} {w : World} {x : Wd} {vl vs vt vn : Value} (h : WAt C B w x vl vs vt vn) (hCB : ¬ C B) (ho : WOk x) (i : Nat) (hi : i < x.l.length) :
    Calls Try.prog 17 #[.pointer (some ⟨B, 0, none⟩), .int .i64 i] w fun e w' => e = .returned (.tuple #[]) ∧ Upd (WF C B) w w' ∧ WAt C B w' (laysW i x) vl vs vt vn := by
  have hs := ho.ns
  have ht := ho.nt
  have hn := ho.nn
  have h8 := ho.n8
  obtain ⟨gl, cl, rfl⟩ := own_some h.rl (by omega)
  obtain ⟨gs, cs, rfl⟩ := own_some h.rsc (by omega)
  obtain ⟨gn, cn, rfl⟩ := own_some h.rlt (by omega)
  have hi3 : i < x.lt.length := by omega
  have hi2 : i < x.sc.length := by omega
  have c0 := own_at h.rlt i _ (intCells_get x.lt i hi3)
  have c1 := own_at h.rl (i * 4 + 3) _ ((lifeCells_get x.l i hi 3 (by omega)).trans rfl)
  have c2 := own_at h.rsc i _ (boolCells_get x.sc i hi2)
  obtain ⟨c0, d0⟩ := c0
  obtain ⟨c1, d1⟩ := c1
  obtain ⟨c2, d2⟩ := c2
  obtain ⟨b0, b1, b2, b3, b4, b5, f0, f1, f2, f3, f4, f5⟩ := blk6f h.box
  have i0 : (0 : Int) ≤ i := by omega
  have i1 : (i : Int) < x.l.length := by omega
  have i2 : (i : Int) < x.sc.length := by omega
  have i3 : (i : Int) < x.lt.length := by omega
  have hlat : latW i x = x.lt[i] := by simp [latW, hi3]
  have hshd : shdW i x = x.l[i].shade := by simp [shdW, hi]
  have hb := ho.lat _ (List.getElem_mem hi3)
  have hb2 := ho.shd _ (List.getElem_mem hi)
  have hp := pickI_lt x.l[i].shade 5 (by omega)
  have HW := Lib.hid h
  have HO := Lib.hid ho
  clear h ho hs ht hn
  by_cases hl : 0 < x.lt[i]
  · have hset := HW.out.set_lt rfl i (.int .i64 (x.lt[i] - 1)) (x.lt.set i (x.lt[i] - 1)) (intCells_set _ _ _) (by simp) rfl
    have hR : laysW i x = { x with lt := x.lt.set i (x.lt[i] - 1) } := by rw [laysW, hlat, if_pos hl]
    rw [hR]
    have HS := Lib.hid hset
    have m1 : IntKind.i64.wrap (x.lt[i] - 1) = x.lt[i] - 1 := IntWalk.i64_in _ (by omega)
    clear hset hR hlat hshd hp hb2
    generalize hV : x.lt[i] = V at *
    clear hV
    go_enter Try.func17, Try.ntmps17
    go_wp2_with fail
    refine bodyPost_ret (results_none rfl _ _ _) rfl ?_
    exact ⟨rfl, HS.out.2, HS.out.1⟩
  · have hset := HW.out.set_sc rfl i (.bool true) (x.sc.set i true) (boolCells_set _ _ _) (by simp) rfl
    have hR : laysW i x = shadeW (pickI x.l[i].shade 5) { x with sc := x.sc.set i true } := by rw [laysW, hlat, hshd, if_neg hl]
    rw [hR]
    have HS := Lib.hid hset
    have HP := Lib.hid (fun w => pick_calls x.l[i].shade 5 (by omega) hb2 w)
    have q0 := HO.out.g0
    have q1 := HO.out.l0
    have q2 := HO.out.gl
    have hx := fun w' (hw' : WAt C B w' { x with sc := x.sc.set i true } (.slice (some ⟨gl, 0, none⟩) x.l.length cl) (.slice (some ⟨gs, 0, none⟩) x.sc.length cs) vt (.slice (some ⟨gn, 0, none⟩) x.lt.length cn)) => shade_calls hw' hCB (pickI x.l[i].shade 5) (by omega) (by show 0 ≤ x.grey ∧ x.grey ≤ 1000; omega) (by show 0 ≤ x.left ∧ x.left ≤ 1000; omega)
    clear q0 q1 q2
    have HX := Lib.hid hx
    have n1 := HW.out.rl
    have e1 : gl ≠ gs := fun e => HW.out.nvlvs gl rfl (by rw [e]; rfl)
    have e2 : B ≠ gs := fun e => by have := (ownrow_lt HW.out.rsc gs rfl).1; omega
    have HE1 := Lib.hid e1
    clear hset hR hlat hshd hx n1
    generalize hV : x.lt[i] = V at *
    generalize hV2 : x.l[i] = L at *
    generalize hV3 : x.sc[i] = S at *
    clear hV hV2 hV3
    go_enter Try.func17, Try.ntmps17
    go_wp2_with fail
    refine (HP.out _).mono ?_
    rintro e w3 ⟨rfl, hu3⟩
    have HU3 := Lib.hid (HS.out.2.trans' hu3 (fun _ _ x => x.elim))
    have HW3 := Lib.hid (HS.out.1.new hu3)
    clear hu3
    go_wp2_with fail
    refine (HX.out _ HW3.out).mono ?_
    rintro e w4 ⟨rfl, hu4, hw4⟩
    have HU4 := Lib.hid (HU3.out.trans hu4)
    have HW4 := Lib.hid hw4
    clear hu4 hw4
    go_wp2_with fail
    go_end0
    exact ⟨rfl, HU4.out, HW4.out⟩
end Go.Proofs.Ytgfabhioliljmaa
