/- CycleEnds: the second loop's body, and what holds at its head. -/
import Derived.Test.YtgfabhioliljmaaCeI
import Derived.Deep.CutRange
import Derived.Deep.DeepCutAuto
import Derived.RegionDies
import Derived.Deep.RegionLaw
import Derived.Deep.RegionHeld3
namespace Go.Proofs.Ytgfabhioliljmaa
open Go.RowKit
set_option linter.unusedVariables false
set_option linter.unusedSimpArgs false

def loopsOf : Code → List Code
  | .loop c => [c]
  | .seq a b => loopsOf a ++ loopsOf b
  | .block _ c => loopsOf c
  | .scope c => loopsOf c
  | .cond _ a b => loopsOf a ++ loopsOf b
  | _ => []
noncomputable def body1 : Code := ((Try.f5.body.map loopsOf).getD []).getD 0 .skip
noncomputable def body2 : Code := ((Try.f5.body.map loopsOf).getD []).getD 1 .skip
def cycC (c : Cyc) : Array Value := #[.int .u8 c.ph, .int .i64 c.g, .int .i64 c.s, .int .i64 c.f, .int .i64 c.b, .bool c.a]
/-- At the second loop's head. -/
def Rel2 (w0 : World) (C B : Nat) (n g : Int) (t : Sta) (w : World) : Prop :=
  New w0 w ∧ B < C ∧ w0.heap.size ≤ B ∧ (∃ vl vs vt vn, WAt (fun b => b = C) B w t.x vl vs vt vn) ∧ w.heap[C]? = some (.cells (cycC t.c) 27 (0, 0)) ∧ Inv n g t
/-- Behind the second loop. -/
def Fin2 (w0 : World) (C B : Nat) (x : Wd) (w : World) : Prop :=
  New w0 w ∧ B < C ∧ w0.heap.size ≤ B ∧ (∃ vl vs vt vn, WAt (fun b => b = C) B w x vl vs vt vn) ∧ w.heap[C]? = some (.cells #[.int .u8 0, .int .i64 0, .int .i64 0, .int .i64 0, .int .i64 6, .bool false] 27 (0, 0)) ∧ WOk x
theorem fin_core {C' : Nat → Prop} {w0 wr w3 w4 w5 : World} {C B : Nat} {x : Wd} {vl vs vt vn v0 v1 v2 v3 v4 v5 : Value} (hU : New w0 wr) (hB0 : w0.heap.size ≤ B) (hBC : B < C) (h3 : New wr w3) (h4 : Upd (WF C' B) w3 w4) (hw4 : WAt C' B w4 x vl vs vt vn) (hCC : C' C) (h5 : New w4 w5)
    (hc4 : w4.heap[C]? = some (.cells #[v0, v1, v2, v3, v4, v5] 27 (0, 0))) (o : Obj) (u0 u1 u2 u3 u4 u5 : Value) :
    New w0 (((((((w5.setCell ⟨C, 0, none⟩ u0).setCell ⟨C, 1, none⟩ u1).setCell ⟨C, 2, none⟩ u2).setCell ⟨C, 3, none⟩ u3).setCell ⟨C, 4, none⟩ u4).setCell ⟨C, 5, none⟩ u5).alloc o) ∧
    WAt (fun b => b = C) B (((((((w5.setCell ⟨C, 0, none⟩ u0).setCell ⟨C, 1, none⟩ u1).setCell ⟨C, 2, none⟩ u2).setCell ⟨C, 3, none⟩ u3).setCell ⟨C, 4, none⟩ u4).setCell ⟨C, 5, none⟩ u5).alloc o) x vl vs vt vn ∧
    (((((((w5.setCell ⟨C, 0, none⟩ u0).setCell ⟨C, 1, none⟩ u1).setCell ⟨C, 2, none⟩ u2).setCell ⟨C, 3, none⟩ u3).setCell ⟨C, 4, none⟩ u4).setCell ⟨C, 5, none⟩ u5).alloc o).heap[C]? = some (.cells #[u0, u1, u2, u3, u4, u5] 27 (0, 0)) := by
  have hc5 := h5.heap hc4 (fun x => x)
  have hu7 : Upd (fun b => b = C) w5 (((((((w5.setCell ⟨C, 0, none⟩ u0).setCell ⟨C, 1, none⟩ u1).setCell ⟨C, 2, none⟩ u2).setCell ⟨C, 3, none⟩ u3).setCell ⟨C, 4, none⟩ u4).setCell ⟨C, 5, none⟩ u5).alloc o) := (((((((Upd.refl (fun b => b = C) w5).set rfl u0).set rfl u1).set rfl u2).set rfl u3).set rfl u4).set rfl u5).alloc o
  have hw5 := (hw4.new h5).prot (C' := fun b => b = C) (Upd.refl _ w5) (fun b hb => .inl (by subst hb; exact hCC))
  refine ⟨?_, hw5.upd hu7 (by omega) (fun b hb e => hw5.cvl b hb e) (fun b hb e => hw5.cvs b hb e) (fun b hb e => hw5.cvt b hb e) (fun b hb e => hw5.cvn b hb e), halloc (bset6 hc5) o⟩
  have k1 : Upd (fun b => B ≤ b) w3 w4 := h4.mono (fun b _ hb => hb.1)
  have k2 : Upd (fun b => B ≤ b) w0 w4 := ((hU.trans h3).mono (fun _ _ x => x.elim) : Upd (fun b => B ≤ b) w0 w3).trans k1
  have k3 : Upd (fun b => B ≤ b) w0 w5 := k2.trans (h5.mono (fun _ _ x => x.elim))
  exact (k3.trans (hu7.mono (fun b _ hb => by subst hb; exact Nat.le_of_lt hBC))).mono (fun b hb h => by have h : B ≤ b := h; omega)
theorem fin2 {C' : Nat → Prop} {w0 wr w3 w4 w5 : World} {C B : Nat} {vl vs vt vn v0 v1 v2 v3 v4 v5 : Value} (n g : Int) (t : Sta) (hI : Inv n g t) (hU : New w0 wr) (hB0 : w0.heap.size ≤ B) (hBC : B < C) (h3 : New wr w3) (h4 : Upd (WF C' B) w3 w4) (hw4 : WAt C' B w4 t.x vl vs vt vn) (hCC : C' C) (h5 : New w4 w5)
    (hc4 : w4.heap[C]? = some (.cells #[v0, v1, v2, v3, v4, v5] 27 (0, 0))) (o : Obj) :
    Rel2 w0 C B n g t (((((((w5.setCell ⟨C, 0, none⟩ (.int .u8 t.c.ph)).setCell ⟨C, 1, none⟩ (.int .i64 t.c.g)).setCell ⟨C, 2, none⟩ (.int .i64 t.c.s)).setCell ⟨C, 3, none⟩ (.int .i64 t.c.f)).setCell ⟨C, 4, none⟩ (.int .i64 t.c.b)).setCell ⟨C, 5, none⟩ (.bool t.c.a)).alloc o) := by
  obtain ⟨a1, a2, a3⟩ := fin_core hU hB0 hBC h3 h4 hw4 hCC h5 hc4 o (.int .u8 t.c.ph) (.int .i64 t.c.g) (.int .i64 t.c.s) (.int .i64 t.c.f) (.int .i64 t.c.b) (.bool t.c.a)
  exact ⟨a1, hBC, hB0, ⟨_, _, _, _, a2⟩, a3, hI⟩
theorem finT {C' : Nat → Prop} {w0 wr w3 w4 : World} {C B : Nat} {vl vs vt vn : Value} (n g : Int) (t : Sta) (hI : Inv n g t) (hU : New w0 wr) (hB0 : w0.heap.size ≤ B) (hBC : B < C) (h3 : New wr w3) (h4 : Upd (WF C' B) w3 w4) (hw4 : WAt (fun b => b = C) B w4 t.x vl vs vt vn)
    (hc4 : w4.heap[C]? = some (.cells (cycC t.c) 27 (0, 0))) : Rel2 w0 C B n g t w4 := by
  have k1 : Upd (fun b => B ≤ b) w3 w4 := h4.mono (fun b _ hb => hb.1)
  have k2 : Upd (fun b => B ≤ b) w0 w4 := ((hU.trans h3).mono (fun _ _ x => x.elim) : Upd (fun b => B ≤ b) w0 w3).trans k1
  exact ⟨k2.mono (fun b hb h => by have h : B ≤ b := h; omega), hBC, hB0, ⟨_, _, _, _, hw4⟩, hc4, hI⟩
theorem pick_same (c n : Int) (hn : 0 < n) (hc : -9223372036854775808 ≤ c ∧ c ≤ 9223372036854775807) (w : World) : Calls Try.prog 15 #[.int .i64 c, .int .i64 n] w fun e w' => e = .returned (.int .i64 (pickI c n)) ∧ w' = w := by
  have hnz : ¬ n = 0 := by omega
  by_cases h : c < 0
  · have h1 : IntKind.i64.wrap (c + 1) = c + 1 := IntWalk.i64_in _ (by omega)
    have h2 : IntKind.i64.wrap (-(c + 1)) = -(c + 1) := IntWalk.i64_in _ (by omega)
    go_enter Try.func15, Try.ntmps15
    go_wp2_with fail
    go_ret
    exact ⟨by simp [pickI, h], rfl⟩
  · have h3 : 0 ≤ c := by omega
    go_enter Try.func15, Try.ntmps15
    go_wp2_with fail
    go_ret
    refine ⟨?_, rfl⟩
    rw [pickI, if_neg (by omega), Int.tmod_eq_emod_of_nonneg h3]; rfl
/-- What the collector is told of a cell that is swept. -/
def backI (bs : List Bool) (k : Nat) : Bool := if h : k < bs.length then bs[k] else false
end Go.Proofs.Ytgfabhioliljmaa
