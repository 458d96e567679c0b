/- CycleEnds: rows are appended; a thread brings up another one. -/
import Derived.Test.YtgfabhioliljmaaCeC
import Derived.Maps.AppendAt
import Derived.OwnWalk
namespace Go.Proofs.Ytgfabhioliljmaa
open Go.RowKit
set_option linter.unusedVariables false
set_option linter.unusedSimpArgs false

theorem addr_plus (g j : Nat) : (⟨g, 0, none⟩ : Addr).add j = ⟨g, j, none⟩ := by
  by_cases h : j = 0
  · subst h; simp [Addr.add]
  · simp [Addr.add, h]
/-- What is appended: nil, or a row that starts a block. -/
def SrcRow (w : World) (size : Nat) (x : Value) (m : Nat) (news : List Value) : Prop :=
  (∃ c, x = .slice none 0 c ∧ m = 0 ∧ news = []) ∨ (∃ g c, x = .slice (some ⟨g, 0, none⟩) m c ∧ news.length = m * size ∧ ∀ j u, news[j]? = some u → w.cell? ((⟨g, 0, none⟩ : Addr).add j) = some u)
theorem SrcRow.own {w : World} {base : Nat} {e : TypeId} {size : Nat} {v : Value} {n : Nat} {xs : List Value} (h : w.ownsRow base e size v n xs) : SrcRow w size v n xs := by
  rcases h.2 with ⟨rfl, rfl⟩ | ⟨g, cap, cur, rfl, _⟩
  · exact .inl ⟨0, rfl, rfl, List.eq_nil_of_length_eq_zero (by simpa using h.1)⟩
  · exact .inr ⟨g, cap, rfl, h.1, (fun j u hj => by rw [addr_plus]; exact (own_at h j u hj).1)⟩
section
variable {P : Program} (w : World)
theorem run_append_row (base : Nat) (t ty e : TypeId) (i : TypeInfo) (z : Value) (size bytes : Nat) (ht : P.underlying t = some (.slice e)) (hi : P.info? e = some i) (hz : i.zero = some z)
    (hsize : i.size = size) (hby : i.bytes = bytes) (hzs : z.cells.size = size) (hsz : 0 < size)
    (v : Value) (n : Nat) (xs : List Value) (hown : w.ownsRow base e size v n xs) (x : Value) (m : Nat) (news : List Value) (hr : SrcRow w size x m news) (h1 : ∀ u ∈ news, u.oneCell' = true)
    (h63 : n + m ≤ maxLen) (hbytes : (n + m) * bytes ≤ 140737488355328) (hbase : base ≤ w.heap.size) :
    ∃ v' w', (Builtin.append_ #[t, t] ty #[v, x]).run P w = .ok v' w' ∧ w'.ownsRow base e size v' (n + m) (xs ++ news) ∧ w.grownBy w' v.ownBlock ∧
      (v'.ownBlock = v.ownBlock ∨ v'.ownBlock = some w.heap.size) := by
  rcases hr with ⟨c, rfl, rfl, rfl⟩ | ⟨g, c, rfl, hl, hcells⟩
  · refine ⟨v, w, ?_, by simpa using hown, World.grownBy.refl w _, .inl rfl⟩
    rcases hown.2 with ⟨rfl, rfl⟩ | ⟨g, cap, cur, rfl, _, _, hnc, _⟩
    · simp [Builtin.append_, run_underlying ht, sizeOf, typeInfo, hi, Builtin.lenOf, Builtin.firstCells]
    · simp [Builtin.append_, run_underlying ht, sizeOf, typeInfo, hi, Builtin.lenOf, Builtin.firstCells, hnc, storeCells]
  · obtain ⟨v', w', hrun, h2, h3, _, h5⟩ := run_append_own_at (P := P) w base t ty e i z size bytes ht hi hz hsize hby hzs hsz v n xs hown ⟨g, 0, none⟩ m c news hl hcells h1 h63 hbytes hbase
    exact ⟨v', w', hrun, h2, h3, h5⟩
theorem wp_append_row {o : Oper} {a : Act} {K : Act → World → Prop} {Q : Exit → Act → World → Prop} (s x : Operand) (t : TypeId)
    (ho : o.op = .call { callee := .builtin .append, args := #[s, x], argTypes := #[t, t] })
    (base : Nat) (e : TypeId) (i : TypeInfo) (z : Value) (size bytes : Nat) (ht : P.underlying t = some (.slice e)) (hi : P.info? e = some i) (hz : i.zero = some z)
    (hsize : i.size = size) (hby : i.bytes = bytes) (hzs : z.cells.size = size) (hsz : 0 < size)
    (v : Value) (n : Nat) (xs : List Value) (hs : a.eval s = v) (hown : w.ownsRow base e size v n xs) (y : Value) (m : Nat) (news : List Value) (hx : a.eval x = y) (hr : SrcRow w size y m news) (h1 : ∀ u ∈ news, u.oneCell' = true)
    (h63 : n + m ≤ maxLen) (hbytes : (n + m) * bytes ≤ 140737488355328) (hbase : base ≤ w.heap.size)
    (h : ∀ v' w', w'.ownsRow base e size v' (n + m) (xs ++ news) → w.grownBy w' v.ownBlock → (v'.ownBlock = v.ownBlock ∨ v'.ownBlock = some w.heap.size) → K (a.put o.dst v') w') : o.wp P a w K Q := by
  obtain ⟨v', w', hrun, h2, h3, h4⟩ := run_append_row (P := P) w base t o.type e i z size bytes ht hi hz hsize hby hzs hsz v n xs hown y m news hr h1 h63 hbytes hbase
  unfold Oper.wp execOp
  simp only [ho, resolve, invoke, builtin, Sem.run_bind, Sem.run_pure, Result.andThen_ok, List.map_toArray, List.map_cons, List.map_nil, hs, hx, hrun]
  exact h v' w' h2 h3 h4
theorem wpList_append_row {ops : Array Oper} {rest : List Oper} {o : Oper} {a : Act} {Q : Exit → Act → World → Prop} (hgd : o.guard = none) (s x : Operand) (t : TypeId)
    (ho : o.op = .call { callee := .builtin .append, args := #[s, x], argTypes := #[t, t] })
    (base : Nat) (e : TypeId) (i : TypeInfo) (z : Value) (size bytes : Nat) (ht : P.underlying t = some (.slice e)) (hi : P.info? e = some i) (hz : i.zero = some z)
    (hsize : i.size = size) (hby : i.bytes = bytes) (hzs : z.cells.size = size) (hsz : 0 < size)
    (v : Value) (n : Nat) (xs : List Value) (hs : a.eval s = v) (hown : w.ownsRow base e size v n xs) (y : Value) (m : Nat) (news : List Value) (hx : a.eval x = y) (hr : SrcRow w size y m news) (h1 : ∀ u ∈ news, u.oneCell' = true)
    (h63 : n + m ≤ maxLen) (hbytes : (n + m) * bytes ≤ 140737488355328) (hbase : base ≤ w.heap.size)
    (h : ∀ v' w', w'.ownsRow base e size v' (n + m) (xs ++ news) → w.grownBy w' v.ownBlock → (v'.ownBlock = v.ownBlock ∨ v'.ownBlock = some w.heap.size) → wpList P ops Q rest (a.put o.dst v') w') : wpList P ops Q (o :: rest) a w :=
  wpList_plain hgd fun _ hK => wp_append_row w s x t ho base e i z size bytes ht hi hz hsize hby hzs hsz v n xs hs hown y m news hx hr h1 h63 hbytes hbase fun v' w' h2 h3 h4 => hK _ _ (h v' w' h2 h3 h4)
theorem step_append_row {ops : Array Oper} {o : Oper} {a : Act} {K : Act → World → Prop} {Q : Exit → Act → World → Prop} {E : Prop} (hgd : o.guard = none) (s x : Operand) (t : TypeId)
    (ho : o.op = .call { callee := .builtin .append, args := #[s, x], argTypes := #[t, t] })
    (base : Nat) (e : TypeId) (i : TypeInfo) (z : Value) (size bytes : Nat) (ht : P.underlying t = some (.slice e)) (hi : P.info? e = some i) (hz : i.zero = some z)
    (hsize : i.size = size) (hby : i.bytes = bytes) (hzs : z.cells.size = size) (hsz : 0 < size)
    (v : Value) (n : Nat) (xs : List Value) (hs : a.eval s = v) (hown : w.ownsRow base e size v n xs) (y : Value) (m : Nat) (news : List Value) (hx : a.eval x = y) (hr : SrcRow w size y m news) (h1 : ∀ u ∈ news, u.oneCell' = true)
    (h63 : n + m ≤ maxLen) (hbytes : (n + m) * bytes ≤ 140737488355328) (hbase : base ≤ w.heap.size)
    (h : ∀ v' w', w'.ownsRow base e size v' (n + m) (xs ++ news) → w.grownBy w' v.ownBlock → (v'.ownBlock = v.ownBlock ∨ v'.ownBlock = some w.heap.size) → K (a.put o.dst v') w') :
    if Region.wanted o (yielded ops a.tmps) = true then Oper.wp P o a w K Q else E := by
  have hw : Region.wanted o (yielded ops a.tmps) = true := by simp [Region.wanted, hgd]
  rw [if_pos hw]
  exact wp_append_row w s x t ho base e i z size bytes ht hi hz hsize hby hzs hsz v n xs hs hown y m news hx hr h1 h63 hbytes hbase h
end
theorem info47 : (Try.prog.info? 47).map (fun i => (i.zero, i.size, i.bytes)) = some (some (.agg #[.bool false, .int .i64 0, .bool false, .int .i64 0]), 4, 32) := by kernel_rfl
theorem info4 : (Try.prog.info? 4).map (fun i => (i.zero, i.size, i.bytes)) = some (some (.bool false), 1, 1) := by kernel_rfl
theorem info3 : (Try.prog.info? 3).map (fun i => (i.zero, i.size, i.bytes)) = some (some (.int .i64 0), 1, 8) := by kernel_rfl
theorem one_life (l : List Lf) : ∀ u ∈ lifeCells l, u.oneCell' = true := by
  intro u hu
  simp only [lifeCells, List.mem_flatMap] at hu
  obtain ⟨x, hx, hx2⟩ := hu
  simp only [lifeC, List.mem_cons, List.not_mem_nil, or_false] at hx2
  rcases hx2 with rfl | rfl | rfl | rfl <;> rfl
theorem one_bool (l : List Bool) : ∀ u ∈ boolCells l, u.oneCell' = true := by
  intro u hu
  simp only [boolCells, List.mem_map] at hu
  obtain ⟨x, hx, rfl⟩ := hu
  rfl
theorem one_int (l : List Int) : ∀ u ∈ intCells l, u.oneCell' = true := by
  intro u hu
  simp only [intCells, List.mem_map] at hu
  obtain ⟨x, hx, rfl⟩ := hu
  rfl
section
variable {C : Nat → Prop} {B : Nat} {w w' w1 : World} {x : Wd} {vl vs vt vn : Value}
theorem WAt.app_l (h : WAt C B w x vl vs vt vn) (hCB : ¬ C B) {v' : Value} (hu0 : New w w') (ys : List Lf) (ho : w1.ownsRow (B + 1) 47 4 v' (x.l.length + ys.length) (lifeCells x.l ++ lifeCells ys)) (hg : w'.grownBy w1 vl.ownBlock) (hat : v'.ownBlock = vl.ownBlock ∨ v'.ownBlock = some w'.heap.size) :
    WAt C B (w1.setCell ⟨B, 0, none⟩ v') { x with l := x.l ++ ys } v' vs vt vn ∧ Upd (WF C B) w (w1.setCell ⟨B, 0, none⟩ v') := by
  have h' := h.new hu0
  have hBl := (Array.getElem?_eq_some_iff.1 h.box).1
  have hu1 : Upd (fun b => vl.ownBlock = some b) w' w1 := (Upd.refl _ w').grown hg (fun b hb _ => hb)
  have hu2 : Upd (fun b => vl.ownBlock = some b ∨ b = B) w' (w1.setCell ⟨B, 0, none⟩ v') := (hu1.mono (fun b _ hb => .inl hb)).set (.inr rfl) _
  have hnB := h'.neB
  have hother : ∀ u : Value, (∀ b, u.ownBlock = some b → b < w'.heap.size) → (Apart vl u) → Apart v' u := fun u hl ha b hb hb2 => by
    rcases hat with e | e
    · exact ha b (e ▸ hb) hb2
    · have := hl b hb2
      rw [e] at hb
      simp only [Option.some.injEq] at hb
      omega
  have hsym : ∀ u u2 : Value, Apart u u2 → Apart u2 u := fun u u2 ha b hb hb2 => ha b hb2 hb
  have hcv : ∀ b, v'.ownBlock = some b → ¬ C b := fun b e hCb => by
    rcases hat with e2 | e2
    · exact h.cvl b (e2 ▸ e) hCb
    · rw [e2] at e; simp only [Option.some.injEq] at e; have := h'.hC b hCb; omega
  have hrow : (w1.setCell ⟨B, 0, none⟩ v').ownsRow (B + 1) 47 4 v' (x.l ++ ys).length (lifeCells (x.l ++ ys)) := by
    have h3 : lifeCells (x.l ++ ys) = lifeCells x.l ++ lifeCells ys := by simp [lifeCells]
    rw [h3, List.length_append]
    exact ((Upd.refl (fun b => b = B) w1).set rfl _).ownsRow ho (fun b hb e => by have := (ownrow_lt ho b hb).1; omega)
  refine ⟨⟨?_, hrow, hu2.ownsRow h'.rsc (fun b hb e => e.elim (fun e => h.nvlvs b e hb) (fun e => hnB.2.1 (e ▸ hb))), hu2.ownsRow h'.rtd (fun b hb e => e.elim (fun e => h.nvlvt b e hb) (fun e => hnB.2.2.1 (e ▸ hb))), hu2.ownsRow h'.rlt (fun b hb e => e.elim (fun e => h.nvlvn b e hb) (fun e => hnB.2.2.2 (e ▸ hb))), hother vs (fun b hb => (ownrow_lt h'.rsc b hb).2) h.nvlvs, hother vt (fun b hb => (ownrow_lt h'.rtd b hb).2) h.nvlvt, hother vn (fun b hb => (ownrow_lt h'.rlt b hb).2) h.nvlvn, h.nvsvt, h.nvsvn, h.nvtvn, hcv, h.cvs, h.cvt, h.cvn, fun b hb => Nat.lt_of_lt_of_le (h'.hC b hb) hu2.size⟩, ?_⟩
  · have hb0 : w1.heap[B]? = _ := hu1.heap h'.box (fun e => hnB.1 e)
    exact bset hb0 0 _
  · refine ((hu0.mono (fun _ _ x => x.elim) : Upd (WF C B) w w').trans' hu2 ?_)
    intro b hb e
    rcases e with e | e
    · exact ⟨by have := (ownrow_lt h'.rl b e).1; omega, h.cvl b e⟩
    · subst e; exact ⟨Nat.le_refl _, hCB⟩
theorem WAt.app_sc (h : WAt C B w x vl vs vt vn) (hCB : ¬ C B) {v' : Value} (hu0 : New w w') (ys : List Bool) (ho : w1.ownsRow (B + 1) 4 1 v' (x.sc.length + ys.length) (boolCells x.sc ++ boolCells ys)) (hg : w'.grownBy w1 vs.ownBlock) (hat : v'.ownBlock = vs.ownBlock ∨ v'.ownBlock = some w'.heap.size) :
    WAt C B (w1.setCell ⟨B, 1, none⟩ v') { x with sc := x.sc ++ ys } vl v' vt vn ∧ Upd (WF C B) w (w1.setCell ⟨B, 1, none⟩ v') := by
  have h' := h.new hu0
  have hBl := (Array.getElem?_eq_some_iff.1 h.box).1
  have hu1 : Upd (fun b => vs.ownBlock = some b) w' w1 := (Upd.refl _ w').grown hg (fun b hb _ => hb)
  have hu2 : Upd (fun b => vs.ownBlock = some b ∨ b = B) w' (w1.setCell ⟨B, 1, none⟩ v') := (hu1.mono (fun b _ hb => .inl hb)).set (.inr rfl) _
  have hnB := h'.neB
  have hother : ∀ u : Value, (∀ b, u.ownBlock = some b → b < w'.heap.size) → (Apart vs u) → Apart v' u := fun u hl ha b hb hb2 => by
    rcases hat with e | e
    · exact ha b (e ▸ hb) hb2
    · have := hl b hb2
      rw [e] at hb
      simp only [Option.some.injEq] at hb
      omega
  have hsym : ∀ u u2 : Value, Apart u u2 → Apart u2 u := fun u u2 ha b hb hb2 => ha b hb2 hb
  have hcv : ∀ b, v'.ownBlock = some b → ¬ C b := fun b e hCb => by
    rcases hat with e2 | e2
    · exact h.cvs b (e2 ▸ e) hCb
    · rw [e2] at e; simp only [Option.some.injEq] at e; have := h'.hC b hCb; omega
  have hrow : (w1.setCell ⟨B, 1, none⟩ v').ownsRow (B + 1) 4 1 v' (x.sc ++ ys).length (boolCells (x.sc ++ ys)) := by
    have h3 : boolCells (x.sc ++ ys) = boolCells x.sc ++ boolCells ys := by simp [boolCells]
    rw [h3, List.length_append]
    exact ((Upd.refl (fun b => b = B) w1).set rfl _).ownsRow ho (fun b hb e => by have := (ownrow_lt ho b hb).1; omega)
  refine ⟨⟨?_, hu2.ownsRow h'.rl (fun b hb e => e.elim (fun e => h.nvlvs b hb e) (fun e => hnB.1 (e ▸ hb))), hrow, hu2.ownsRow h'.rtd (fun b hb e => e.elim (fun e => h.nvsvt b e hb) (fun e => hnB.2.2.1 (e ▸ hb))), hu2.ownsRow h'.rlt (fun b hb e => e.elim (fun e => h.nvsvn b e hb) (fun e => hnB.2.2.2 (e ▸ hb))), hsym _ _ (hother vl (fun b hb => (ownrow_lt h'.rl b hb).2) (hsym _ _ h.nvlvs)), h.nvlvt, h.nvlvn, hother vt (fun b hb => (ownrow_lt h'.rtd b hb).2) h.nvsvt, hother vn (fun b hb => (ownrow_lt h'.rlt b hb).2) h.nvsvn, h.nvtvn, h.cvl, hcv, h.cvt, h.cvn, fun b hb => Nat.lt_of_lt_of_le (h'.hC b hb) hu2.size⟩, ?_⟩
  · have hb0 : w1.heap[B]? = _ := hu1.heap h'.box (fun e => hnB.2.1 e)
    exact bset hb0 1 _
  · refine ((hu0.mono (fun _ _ x => x.elim) : Upd (WF C B) w w').trans' hu2 ?_)
    intro b hb e
    rcases e with e | e
    · exact ⟨by have := (ownrow_lt h'.rsc b e).1; omega, h.cvs b e⟩
    · subst e; exact ⟨Nat.le_refl _, hCB⟩
theorem WAt.app_td (h : WAt C B w x vl vs vt vn) (hCB : ¬ C B) {v' : Value} (hu0 : New w w') (ys : List Bool) (ho : w1.ownsRow (B + 1) 4 1 v' (x.td.length + ys.length) (boolCells x.td ++ boolCells ys)) (hg : w'.grownBy w1 vt.ownBlock) (hat : v'.ownBlock = vt.ownBlock ∨ v'.ownBlock = some w'.heap.size) :
    WAt C B (w1.setCell ⟨B, 2, none⟩ v') { x with td := x.td ++ ys } vl vs v' vn ∧ Upd (WF C B) w (w1.setCell ⟨B, 2, none⟩ v') := by
  have h' := h.new hu0
  have hBl := (Array.getElem?_eq_some_iff.1 h.box).1
  have hu1 : Upd (fun b => vt.ownBlock = some b) w' w1 := (Upd.refl _ w').grown hg (fun b hb _ => hb)
  have hu2 : Upd (fun b => vt.ownBlock = some b ∨ b = B) w' (w1.setCell ⟨B, 2, none⟩ v') := (hu1.mono (fun b _ hb => .inl hb)).set (.inr rfl) _
  have hnB := h'.neB
  have hother : ∀ u : Value, (∀ b, u.ownBlock = some b → b < w'.heap.size) → (Apart vt u) → Apart v' u := fun u hl ha b hb hb2 => by
    rcases hat with e | e
    · exact ha b (e ▸ hb) hb2
    · have := hl b hb2
      rw [e] at hb
      simp only [Option.some.injEq] at hb
      omega
  have hsym : ∀ u u2 : Value, Apart u u2 → Apart u2 u := fun u u2 ha b hb hb2 => ha b hb2 hb
  have hcv : ∀ b, v'.ownBlock = some b → ¬ C b := fun b e hCb => by
    rcases hat with e2 | e2
    · exact h.cvt b (e2 ▸ e) hCb
    · rw [e2] at e; simp only [Option.some.injEq] at e; have := h'.hC b hCb; omega
  have hrow : (w1.setCell ⟨B, 2, none⟩ v').ownsRow (B + 1) 4 1 v' (x.td ++ ys).length (boolCells (x.td ++ ys)) := by
    have h3 : boolCells (x.td ++ ys) = boolCells x.td ++ boolCells ys := by simp [boolCells]
    rw [h3, List.length_append]
    exact ((Upd.refl (fun b => b = B) w1).set rfl _).ownsRow ho (fun b hb e => by have := (ownrow_lt ho b hb).1; omega)
  refine ⟨⟨?_, hu2.ownsRow h'.rl (fun b hb e => e.elim (fun e => h.nvlvt b hb e) (fun e => hnB.1 (e ▸ hb))), hu2.ownsRow h'.rsc (fun b hb e => e.elim (fun e => h.nvsvt b hb e) (fun e => hnB.2.1 (e ▸ hb))), hrow, hu2.ownsRow h'.rlt (fun b hb e => e.elim (fun e => h.nvtvn b e hb) (fun e => hnB.2.2.2 (e ▸ hb))), h.nvlvs, hsym _ _ (hother vl (fun b hb => (ownrow_lt h'.rl b hb).2) (hsym _ _ h.nvlvt)), h.nvlvn, hsym _ _ (hother vs (fun b hb => (ownrow_lt h'.rsc b hb).2) (hsym _ _ h.nvsvt)), h.nvsvn, hother vn (fun b hb => (ownrow_lt h'.rlt b hb).2) h.nvtvn, h.cvl, h.cvs, hcv, h.cvn, fun b hb => Nat.lt_of_lt_of_le (h'.hC b hb) hu2.size⟩, ?_⟩
  · have hb0 : w1.heap[B]? = _ := hu1.heap h'.box (fun e => hnB.2.2.1 e)
    exact bset hb0 2 _
  · refine ((hu0.mono (fun _ _ x => x.elim) : Upd (WF C B) w w').trans' hu2 ?_)
    intro b hb e
    rcases e with e | e
    · exact ⟨by have := (ownrow_lt h'.rtd b e).1; omega, h.cvt b e⟩
    · subst e; exact ⟨Nat.le_refl _, hCB⟩
theorem WAt.app_lt (h : WAt C B w x vl vs vt vn) (hCB : ¬ C B) {v' : Value} (hu0 : New w w') (ys : List Int) (ho : w1.ownsRow (B + 1) 3 1 v' (x.lt.length + ys.length) (intCells x.lt ++ intCells ys)) (hg : w'.grownBy w1 vn.ownBlock) (hat : v'.ownBlock = vn.ownBlock ∨ v'.ownBlock = some w'.heap.size) :
    WAt C B (w1.setCell ⟨B, 3, none⟩ v') { x with lt := x.lt ++ ys } vl vs vt v' ∧ Upd (WF C B) w (w1.setCell ⟨B, 3, none⟩ v') := by
  have h' := h.new hu0
  have hBl := (Array.getElem?_eq_some_iff.1 h.box).1
  have hu1 : Upd (fun b => vn.ownBlock = some b) w' w1 := (Upd.refl _ w').grown hg (fun b hb _ => hb)
  have hu2 : Upd (fun b => vn.ownBlock = some b ∨ b = B) w' (w1.setCell ⟨B, 3, none⟩ v') := (hu1.mono (fun b _ hb => .inl hb)).set (.inr rfl) _
  have hnB := h'.neB
  have hother : ∀ u : Value, (∀ b, u.ownBlock = some b → b < w'.heap.size) → (Apart vn u) → Apart v' u := fun u hl ha b hb hb2 => by
    rcases hat with e | e
    · exact ha b (e ▸ hb) hb2
    · have := hl b hb2
      rw [e] at hb
      simp only [Option.some.injEq] at hb
      omega
  have hsym : ∀ u u2 : Value, Apart u u2 → Apart u2 u := fun u u2 ha b hb hb2 => ha b hb2 hb
  have hcv : ∀ b, v'.ownBlock = some b → ¬ C b := fun b e hCb => by
    rcases hat with e2 | e2
    · exact h.cvn b (e2 ▸ e) hCb
    · rw [e2] at e; simp only [Option.some.injEq] at e; have := h'.hC b hCb; omega
  have hrow : (w1.setCell ⟨B, 3, none⟩ v').ownsRow (B + 1) 3 1 v' (x.lt ++ ys).length (intCells (x.lt ++ ys)) := by
    have h3 : intCells (x.lt ++ ys) = intCells x.lt ++ intCells ys := by simp [intCells]
    rw [h3, List.length_append]
    exact ((Upd.refl (fun b => b = B) w1).set rfl _).ownsRow ho (fun b hb e => by have := (ownrow_lt ho b hb).1; omega)
  refine ⟨⟨?_, hu2.ownsRow h'.rl (fun b hb e => e.elim (fun e => h.nvlvn b hb e) (fun e => hnB.1 (e ▸ hb))), hu2.ownsRow h'.rsc (fun b hb e => e.elim (fun e => h.nvsvn b hb e) (fun e => hnB.2.1 (e ▸ hb))), hu2.ownsRow h'.rtd (fun b hb e => e.elim (fun e => h.nvtvn b hb e) (fun e => hnB.2.2.1 (e ▸ hb))), hrow, h.nvlvs, h.nvlvt, hsym _ _ (hother vl (fun b hb => (ownrow_lt h'.rl b hb).2) (hsym _ _ h.nvlvn)), h.nvsvt, hsym _ _ (hother vs (fun b hb => (ownrow_lt h'.rsc b hb).2) (hsym _ _ h.nvsvn)), hsym _ _ (hother vt (fun b hb => (ownrow_lt h'.rtd b hb).2) (hsym _ _ h.nvtvn)), h.cvl, h.cvs, h.cvt, hcv, fun b hb => Nat.lt_of_lt_of_le (h'.hC b hb) hu2.size⟩, ?_⟩
  · have hb0 : w1.heap[B]? = _ := hu1.heap h'.box (fun e => hnB.2.2.2 e)
    exact bset hb0 3 _
  · refine ((hu0.mono (fun _ _ x => x.elim) : Upd (WF C B) w w').trans' hu2 ?_)
    intro b hb e
    rcases e with e | e
    · exact ⟨by have := (ownrow_lt h'.rlt b e).1; omega, h.cvn b e⟩
    · subst e; exact ⟨Nat.le_refl _, hCB⟩
end
end Go.Proofs.Ytgfabhioliljmaa
