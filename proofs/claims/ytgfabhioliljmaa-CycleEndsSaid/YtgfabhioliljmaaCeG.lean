/- CycleEnds: the world is made. -/
import Derived.Test.YtgfabhioliljmaaCeF
namespace Go.Proofs.Ytgfabhioliljmaa
open Go.RowKit
set_option linter.unusedVariables false
set_option linter.unusedSimpArgs false

section
variable {C : Nat → Prop} {B : Nat} {w w' w1 : World} {x : Wd} {vl vs vt vn : Value}
theorem WAt.app0_l (h : WAt C B w x vl vs vt vn) {v' : Value} (hu0 : New w w') (ys : List Lf) (ho : w1.ownsRow (B + 1) 47 4 v' (x.l.length + ys.length) (lifeCells x.l ++ lifeCells ys)) (hg : w'.grownBy w1 vl.ownBlock) (hat : v'.ownBlock = vl.ownBlock ∨ v'.ownBlock = some w'.heap.size) :
    WAt C B (w1.setCell ⟨B, 0, none⟩ v') { x with l := x.l ++ ys } v' vs vt vn ∧ Upd (fun b => B ≤ b) w (w1.setCell ⟨B, 0, none⟩ v') := by
  have h' := h.new hu0
  have hBl := (Array.getElem?_eq_some_iff.1 h.box).1
  have hu1 : Upd (fun b => vl.ownBlock = some b) w' w1 := (Upd.refl _ w').grown hg (fun b hb _ => hb)
  have hu2 : Upd (fun b => vl.ownBlock = some b ∨ b = B) w' (w1.setCell ⟨B, 0, none⟩ v') := (hu1.mono (fun b _ hb => .inl hb)).set (.inr rfl) _
  have hnB := h'.neB
  have hother : ∀ u : Value, (∀ b, u.ownBlock = some b → b < w'.heap.size) → (Apart vl u) → Apart v' u := fun u hl ha b hb hb2 => by
    rcases hat with e | e
    · exact ha b (e ▸ hb) hb2
    · have := hl b hb2
      rw [e] at hb
      simp only [Option.some.injEq] at hb
      omega
  have hsym : ∀ u u2 : Value, Apart u u2 → Apart u2 u := fun u u2 ha b hb hb2 => ha b hb2 hb
  have hcv : ∀ b, v'.ownBlock = some b → ¬ C b := fun b e hCb => by
    rcases hat with e2 | e2
    · exact h.cvl b (e2 ▸ e) hCb
    · rw [e2] at e; simp only [Option.some.injEq] at e; have := h'.hC b hCb; omega
  have hrow : (w1.setCell ⟨B, 0, none⟩ v').ownsRow (B + 1) 47 4 v' (x.l ++ ys).length (lifeCells (x.l ++ ys)) := by
    have h3 : lifeCells (x.l ++ ys) = lifeCells x.l ++ lifeCells ys := by simp [lifeCells]
    rw [h3, List.length_append]
    exact ((Upd.refl (fun b => b = B) w1).set rfl _).ownsRow ho (fun b hb e => by have := (ownrow_lt ho b hb).1; omega)
  refine ⟨⟨?_, hrow, hu2.ownsRow h'.rsc (fun b hb e => e.elim (fun e => h.nvlvs b e hb) (fun e => hnB.2.1 (e ▸ hb))), hu2.ownsRow h'.rtd (fun b hb e => e.elim (fun e => h.nvlvt b e hb) (fun e => hnB.2.2.1 (e ▸ hb))), hu2.ownsRow h'.rlt (fun b hb e => e.elim (fun e => h.nvlvn b e hb) (fun e => hnB.2.2.2 (e ▸ hb))), hother vs (fun b hb => (ownrow_lt h'.rsc b hb).2) h.nvlvs, hother vt (fun b hb => (ownrow_lt h'.rtd b hb).2) h.nvlvt, hother vn (fun b hb => (ownrow_lt h'.rlt b hb).2) h.nvlvn, h.nvsvt, h.nvsvn, h.nvtvn, hcv, h.cvs, h.cvt, h.cvn, fun b hb => Nat.lt_of_lt_of_le (h'.hC b hb) hu2.size⟩, ?_⟩
  · have hb0 : w1.heap[B]? = _ := hu1.heap h'.box (fun e => hnB.1 e)
    exact bset hb0 0 _
  · refine ((hu0.mono (fun _ _ x => x.elim) : Upd (fun b => B ≤ b) w w').trans' hu2 ?_)
    intro b hb e
    rcases e with e | e
    · show B ≤ b; have := (ownrow_lt h'.rl b e).1; omega
    · subst e; exact Nat.le_refl _
theorem WAt.app0_sc (h : WAt C B w x vl vs vt vn) {v' : Value} (hu0 : New w w') (ys : List Bool) (ho : w1.ownsRow (B + 1) 4 1 v' (x.sc.length + ys.length) (boolCells x.sc ++ boolCells ys)) (hg : w'.grownBy w1 vs.ownBlock) (hat : v'.ownBlock = vs.ownBlock ∨ v'.ownBlock = some w'.heap.size) :
    WAt C B (w1.setCell ⟨B, 1, none⟩ v') { x with sc := x.sc ++ ys } vl v' vt vn ∧ Upd (fun b => B ≤ b) w (w1.setCell ⟨B, 1, none⟩ v') := by
  have h' := h.new hu0
  have hBl := (Array.getElem?_eq_some_iff.1 h.box).1
  have hu1 : Upd (fun b => vs.ownBlock = some b) w' w1 := (Upd.refl _ w').grown hg (fun b hb _ => hb)
  have hu2 : Upd (fun b => vs.ownBlock = some b ∨ b = B) w' (w1.setCell ⟨B, 1, none⟩ v') := (hu1.mono (fun b _ hb => .inl hb)).set (.inr rfl) _
  have hnB := h'.neB
  have hother : ∀ u : Value, (∀ b, u.ownBlock = some b → b < w'.heap.size) → (Apart vs u) → Apart v' u := fun u hl ha b hb hb2 => by
    rcases hat with e | e
    · exact ha b (e ▸ hb) hb2
    · have := hl b hb2
      rw [e] at hb
      simp only [Option.some.injEq] at hb
      omega
  have hsym : ∀ u u2 : Value, Apart u u2 → Apart u2 u := fun u u2 ha b hb hb2 => ha b hb2 hb
  have hcv : ∀ b, v'.ownBlock = some b → ¬ C b := fun b e hCb => by
    rcases hat with e2 | e2
    · exact h.cvs b (e2 ▸ e) hCb
    · rw [e2] at e; simp only [Option.some.injEq] at e; have := h'.hC b hCb; omega
  have hrow : (w1.setCell ⟨B, 1, none⟩ v').ownsRow (B + 1) 4 1 v' (x.sc ++ ys).length (boolCells (x.sc ++ ys)) := by
    have h3 : boolCells (x.sc ++ ys) = boolCells x.sc ++ boolCells ys := by simp [boolCells]
    rw [h3, List.length_append]
    exact ((Upd.refl (fun b => b = B) w1).set rfl _).ownsRow ho (fun b hb e => by have := (ownrow_lt ho b hb).1; omega)
  refine ⟨⟨?_, hu2.ownsRow h'.rl (fun b hb e => e.elim (fun e => h.nvlvs b hb e) (fun e => hnB.1 (e ▸ hb))), hrow, hu2.ownsRow h'.rtd (fun b hb e => e.elim (fun e => h.nvsvt b e hb) (fun e => hnB.2.2.1 (e ▸ hb))), hu2.ownsRow h'.rlt (fun b hb e => e.elim (fun e => h.nvsvn b e hb) (fun e => hnB.2.2.2 (e ▸ hb))), hsym _ _ (hother vl (fun b hb => (ownrow_lt h'.rl b hb).2) (hsym _ _ h.nvlvs)), h.nvlvt, h.nvlvn, hother vt (fun b hb => (ownrow_lt h'.rtd b hb).2) h.nvsvt, hother vn (fun b hb => (ownrow_lt h'.rlt b hb).2) h.nvsvn, h.nvtvn, h.cvl, hcv, h.cvt, h.cvn, fun b hb => Nat.lt_of_lt_of_le (h'.hC b hb) hu2.size⟩, ?_⟩
  · have hb0 : w1.heap[B]? = _ := hu1.heap h'.box (fun e => hnB.2.1 e)
    exact bset hb0 1 _
  · refine ((hu0.mono (fun _ _ x => x.elim) : Upd (fun b => B ≤ b) w w').trans' hu2 ?_)
    intro b hb e
    rcases e with e | e
    · show B ≤ b; have := (ownrow_lt h'.rsc b e).1; omega
    · subst e; exact Nat.le_refl _
theorem WAt.app0_td (h : WAt C B w x vl vs vt vn) {v' : Value} (hu0 : New w w') (ys : List Bool) (ho : w1.ownsRow (B + 1) 4 1 v' (x.td.length + ys.length) (boolCells x.td ++ boolCells ys)) (hg : w'.grownBy w1 vt.ownBlock) (hat : v'.ownBlock = vt.ownBlock ∨ v'.ownBlock = some w'.heap.size) :
    WAt C B (w1.setCell ⟨B, 2, none⟩ v') { x with td := x.td ++ ys } vl vs v' vn ∧ Upd (fun b => B ≤ b) w (w1.setCell ⟨B, 2, none⟩ v') := by
  have h' := h.new hu0
  have hBl := (Array.getElem?_eq_some_iff.1 h.box).1
  have hu1 : Upd (fun b => vt.ownBlock = some b) w' w1 := (Upd.refl _ w').grown hg (fun b hb _ => hb)
  have hu2 : Upd (fun b => vt.ownBlock = some b ∨ b = B) w' (w1.setCell ⟨B, 2, none⟩ v') := (hu1.mono (fun b _ hb => .inl hb)).set (.inr rfl) _
  have hnB := h'.neB
  have hother : ∀ u : Value, (∀ b, u.ownBlock = some b → b < w'.heap.size) → (Apart vt u) → Apart v' u := fun u hl ha b hb hb2 => by
    rcases hat with e | e
    · exact ha b (e ▸ hb) hb2
    · have := hl b hb2
      rw [e] at hb
      simp only [Option.some.injEq] at hb
      omega
  have hsym : ∀ u u2 : Value, Apart u u2 → Apart u2 u := fun u u2 ha b hb hb2 => ha b hb2 hb
  have hcv : ∀ b, v'.ownBlock = some b → ¬ C b := fun b e hCb => by
    rcases hat with e2 | e2
    · exact h.cvt b (e2 ▸ e) hCb
    · rw [e2] at e; simp only [Option.some.injEq] at e; have := h'.hC b hCb; omega
  have hrow : (w1.setCell ⟨B, 2, none⟩ v').ownsRow (B + 1) 4 1 v' (x.td ++ ys).length (boolCells (x.td ++ ys)) := by
    have h3 : boolCells (x.td ++ ys) = boolCells x.td ++ boolCells ys := by simp [boolCells]
    rw [h3, List.length_append]
    exact ((Upd.refl (fun b => b = B) w1).set rfl _).ownsRow ho (fun b hb e => by have := (ownrow_lt ho b hb).1; omega)
  refine ⟨⟨?_, hu2.ownsRow h'.rl (fun b hb e => e.elim (fun e => h.nvlvt b hb e) (fun e => hnB.1 (e ▸ hb))), hu2.ownsRow h'.rsc (fun b hb e => e.elim (fun e => h.nvsvt b hb e) (fun e => hnB.2.1 (e ▸ hb))), hrow, hu2.ownsRow h'.rlt (fun b hb e => e.elim (fun e => h.nvtvn b e hb) (fun e => hnB.2.2.2 (e ▸ hb))), h.nvlvs, hsym _ _ (hother vl (fun b hb => (ownrow_lt h'.rl b hb).2) (hsym _ _ h.nvlvt)), h.nvlvn, hsym _ _ (hother vs (fun b hb => (ownrow_lt h'.rsc b hb).2) (hsym _ _ h.nvsvt)), h.nvsvn, hother vn (fun b hb => (ownrow_lt h'.rlt b hb).2) h.nvtvn, h.cvl, h.cvs, hcv, h.cvn, fun b hb => Nat.lt_of_lt_of_le (h'.hC b hb) hu2.size⟩, ?_⟩
  · have hb0 : w1.heap[B]? = _ := hu1.heap h'.box (fun e => hnB.2.2.1 e)
    exact bset hb0 2 _
  · refine ((hu0.mono (fun _ _ x => x.elim) : Upd (fun b => B ≤ b) w w').trans' hu2 ?_)
    intro b hb e
    rcases e with e | e
    · show B ≤ b; have := (ownrow_lt h'.rtd b e).1; omega
    · subst e; exact Nat.le_refl _
theorem WAt.app0_lt (h : WAt C B w x vl vs vt vn) {v' : Value} (hu0 : New w w') (ys : List Int) (ho : w1.ownsRow (B + 1) 3 1 v' (x.lt.length + ys.length) (intCells x.lt ++ intCells ys)) (hg : w'.grownBy w1 vn.ownBlock) (hat : v'.ownBlock = vn.ownBlock ∨ v'.ownBlock = some w'.heap.size) :
    WAt C B (w1.setCell ⟨B, 3, none⟩ v') { x with lt := x.lt ++ ys } vl vs vt v' ∧ Upd (fun b => B ≤ b) w (w1.setCell ⟨B, 3, none⟩ v') := by
  have h' := h.new hu0
  have hBl := (Array.getElem?_eq_some_iff.1 h.box).1
  have hu1 : Upd (fun b => vn.ownBlock = some b) w' w1 := (Upd.refl _ w').grown hg (fun b hb _ => hb)
  have hu2 : Upd (fun b => vn.ownBlock = some b ∨ b = B) w' (w1.setCell ⟨B, 3, none⟩ v') := (hu1.mono (fun b _ hb => .inl hb)).set (.inr rfl) _
  have hnB := h'.neB
  have hother : ∀ u : Value, (∀ b, u.ownBlock = some b → b < w'.heap.size) → (Apart vn u) → Apart v' u := fun u hl ha b hb hb2 => by
    rcases hat with e | e
    · exact ha b (e ▸ hb) hb2
    · have := hl b hb2
      rw [e] at hb
      simp only [Option.some.injEq] at hb
      omega
  have hsym : ∀ u u2 : Value, Apart u u2 → Apart u2 u := fun u u2 ha b hb hb2 => ha b hb2 hb
  have hcv : ∀ b, v'.ownBlock = some b → ¬ C b := fun b e hCb => by
    rcases hat with e2 | e2
    · exact h.cvn b (e2 ▸ e) hCb
    · rw [e2] at e; simp only [Option.some.injEq] at e; have := h'.hC b hCb; omega
  have hrow : (w1.setCell ⟨B, 3, none⟩ v').ownsRow (B + 1) 3 1 v' (x.lt ++ ys).length (intCells (x.lt ++ ys)) := by
    have h3 : intCells (x.lt ++ ys) = intCells x.lt ++ intCells ys := by simp [intCells]
    rw [h3, List.length_append]
    exact ((Upd.refl (fun b => b = B) w1).set rfl _).ownsRow ho (fun b hb e => by have := (ownrow_lt ho b hb).1; omega)
  refine ⟨⟨?_, hu2.ownsRow h'.rl (fun b hb e => e.elim (fun e => h.nvlvn b hb e) (fun e => hnB.1 (e ▸ hb))), hu2.ownsRow h'.rsc (fun b hb e => e.elim (fun e => h.nvsvn b hb e) (fun e => hnB.2.1 (e ▸ hb))), hu2.ownsRow h'.rtd (fun b hb e => e.elim (fun e => h.nvtvn b hb e) (fun e => hnB.2.2.1 (e ▸ hb))), hrow, h.nvlvs, h.nvlvt, hsym _ _ (hother vl (fun b hb => (ownrow_lt h'.rl b hb).2) (hsym _ _ h.nvlvn)), h.nvsvt, hsym _ _ (hother vs (fun b hb => (ownrow_lt h'.rsc b hb).2) (hsym _ _ h.nvsvn)), hsym _ _ (hother vt (fun b hb => (ownrow_lt h'.rtd b hb).2) (hsym _ _ h.nvtvn)), h.cvl, h.cvs, h.cvt, hcv, fun b hb => Nat.lt_of_lt_of_le (h'.hC b hb) hu2.size⟩, ?_⟩
  · have hb0 : w1.heap[B]? = _ := hu1.heap h'.box (fun e => hnB.2.2.2 e)
    exact bset hb0 3 _
  · refine ((hu0.mono (fun _ _ x => x.elim) : Upd (fun b => B ≤ b) w w').trans' hu2 ?_)
    intro b hb e
    rcases e with e | e
    · show B ≤ b; have := (ownrow_lt h'.rlt b e).1; omega
    · subst e; exact Nat.le_refl _
end
theorem WAt.prot {C C' : Nat → Prop} {B : Nat} {w w' : World} {x : Wd} {vl vs vt vn : Value} (h : WAt C B w x vl vs vt vn) (hu : New w w') (hC : ∀ b, C' b → C b ∨ (w.heap.size ≤ b ∧ b < w'.heap.size)) : WAt C' B w' x vl vs vt vn := by
  have h' := h.new hu
  have hk : ∀ v : Value, (∀ b, v.ownBlock = some b → ¬ C b) → (∀ b, v.ownBlock = some b → b < w.heap.size) → ∀ b, v.ownBlock = some b → ¬ C' b := fun v h1 h2 b hb hc => by
    rcases hC b hc with e | e
    · exact h1 b hb e
    · have := h2 b hb; omega
  exact ⟨h'.box, h'.rl, h'.rsc, h'.rtd, h'.rlt, h'.nvlvs, h'.nvlvt, h'.nvlvn, h'.nvsvt, h'.nvsvn, h'.nvtvn, hk _ h.cvl (fun b hb => (ownrow_lt h.rl b hb).2), hk _ h.cvs (fun b hb => (ownrow_lt h.rsc b hb).2), hk _ h.cvt (fun b hb => (ownrow_lt h.rtd b hb).2), hk _ h.cvn (fun b hb => (ownrow_lt h.rlt b hb).2), fun b hb => (hC b hb).elim (fun e => h'.hC b e) (fun e => e.2)⟩
/-- Lives, in memory. -/
def Lives (w : World) (v : Value) (ls : List Lf) : Prop := ∃ A c, v = .slice A ls.length c ∧ ∀ j (h : j < ls.length), ∃ g o, A = some ⟨g, o, none⟩ ∧ g < w.heap.size ∧ w.cell? ⟨g, o + j * 4, none⟩ = some (.bool ls[j].still) ∧ w.cell? ⟨g, o + j * 4 + 1, none⟩ = some (.int .i64 ls[j].late) ∧ w.cell? ⟨g, o + j * 4 + 2, none⟩ = some (.bool ls[j].born) ∧ w.cell? ⟨g, o + j * 4 + 3, none⟩ = some (.int .i64 ls[j].shade)
/-- Bools, in memory. -/
def Backs (w : World) (v : Value) (bs : List Bool) : Prop := ∃ A c, v = .slice A bs.length c ∧ ∀ j (h : j < bs.length), ∃ g o, A = some ⟨g, o, none⟩ ∧ g < w.heap.size ∧ w.cell? ⟨g, o + j, none⟩ = some (.bool bs[j])
/-- The world as it is made of the first lives. -/
def madeW (n : Int) (ls : List Lf) : Wd := ⟨ls, ls.map (fun _ => false), ls.map (fun _ => false), ls.map (fun l => pickI l.late 4), 0, n⟩
theorem madeW_snoc (n : Int) (ls : List Lf) (l : Lf) : madeW n (ls ++ [l]) = { madeW n ls with l := (madeW n ls).l ++ [l], sc := (madeW n ls).sc ++ [false], td := (madeW n ls).td ++ [false], lt := (madeW n ls).lt ++ [pickI l.late 4] } := by
  simp [madeW]
end Go.Proofs.Ytgfabhioliljmaa
