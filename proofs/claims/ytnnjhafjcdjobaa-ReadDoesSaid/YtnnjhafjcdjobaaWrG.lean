/- Read: a text appended to the writer's bytes: where the bytes lie then. Read: put, of what is no list. Read: put, of any datum, if its list is written. Read: a quoted datum, written. Read: a list's loop, written. UNDER WAY. -/
import Derived.Test.YtnnjhafjcdjobaaWrF
import Derived.Lib.AppendStr
import Derived.Room.AppendFits
namespace Go.Proofs.Ytnnjhafjcdjobaa
open Go.RowKit
set_option linter.unusedVariables false
set_option linter.unusedSimpArgs false

section
variable {P : Program} (w : World)
theorem run_append_text (base : Nat) (t u ty e : TypeId) (i : TypeInfo) (ht : P.underlying t = some (.slice e)) (hu : P.underlying u = some .string) (hi : P.info? e = some i) (hz : i.zero = some (.int .u8 0))
    (hsize : i.size = 1) (hby : i.bytes = 1) (v : Value) (n : Nat) (xs : List Value) (hown : w.ownsRow base e 1 v n xs) (s : ByteArray)
    (h63 : n + s.size ≤ maxLen) (hbytes : n + s.size ≤ 140737488355328) (hbase : base ≤ w.heap.size) :
    ∃ v' w', (Builtin.append_ #[t, u] ty #[v, .string s]).run P w = .ok v' w' ∧ w'.ownsRow base e 1 v' (n + s.size) (xs ++ Lib.strCells s) ∧ w.grownBy w' v.ownBlock ∧
      (v'.ownBlock = v.ownBlock ∨ ∀ b, v'.ownBlock = some b → w.heap.size ≤ b) := by
  obtain ⟨v', w', hr, h1, h2, h3⟩ := Lib.run_append_own_string (P := P) w base t u ty e i ht hu hi hz hsize hby v n xs hown s h63 hbytes hbase
  refine ⟨v', w', hr, h1, h2, ?_⟩
  rcases hown.2 with ⟨rfl, rfl⟩ | ⟨g, cap, cur, rfl, hbg, hg, hnc, hcm, hcs, htake⟩
  · right
    obtain ⟨v2, w2, hr2, k1, k2, k3⟩ := Lib.run_append_own_string (P := P) w w.heap.size t u ty e i ht hu hi hz hsize hby (.slice none 0 0) 0 xs ⟨hown.1, .inl ⟨rfl, rfl⟩⟩ s h63 hbytes (Nat.le_refl _)
    rw [hr] at hr2
    injection hr2 with e1 e2
    subst e1 e2
    exact fun b hb => (own_lt k1 b hb).1
  · by_cases hroom : n + s.size ≤ cap
    · left
      have hr2 := Lib.run_append_room_string (P := P) w t u ty e i ht hu hi hsize g n cap cur hg s hroom (by simp only [maxLen] at h63; omega)
      rw [hr] at hr2
      injection hr2 with e1 e2
      subst e1
      rfl
    · right
      have hxl : xs.length = n := by simpa using hown.1
      have holds : ∀ j u, xs[j]? = some u → w.cell? ((⟨g, 0, none⟩ : Addr).add j) = some u := own_cells hown
      have hr2 := Lib.run_append_grow_string (P := P) w t u ty e i (.int .u8 0) ht hu hi hz ⟨g, 0, none⟩ n cap xs (by rw [hsize]; simpa using hxl) holds s (by omega) (by simp only [maxLen] at h63; omega) (by rw [hby]; exact growslice_fits (by omega) (by omega))
      rw [hr] at hr2
      injection hr2 with e1 e2
      subst e1
      intro b hb
      simp only [Value.ownBlock, Option.some.injEq] at hb
      omega
theorem step_append_text {ops : Array Oper} {o : Oper} {a : Act} {K : Act → World → Prop} {Q : Exit → Act → World → Prop} {E : Prop} (hgd : o.guard = none) (sl x : Operand) (t u : TypeId)
    (ho : o.op = .call { callee := .builtin .append, args := #[sl, x], argTypes := #[t, u] })
    (base : Nat) (e : TypeId) (i : TypeInfo) (ht : P.underlying t = some (.slice e)) (hu : P.underlying u = some .string) (hi : P.info? e = some i) (hz : i.zero = some (.int .u8 0))
    (hsize : i.size = 1) (hby : i.bytes = 1) (v : Value) (n : Nat) (xs : List Value) (hs : a.eval sl = v) (hown : w.ownsRow base e 1 v n xs) (s : ByteArray) (hx : a.eval x = .string s)
    (h63 : n + s.size ≤ maxLen) (hbytes : n + s.size ≤ 140737488355328) (hbase : base ≤ w.heap.size)
    (h : ∀ v' w', w'.ownsRow base e 1 v' (n + s.size) (xs ++ Lib.strCells s) → w.grownBy w' v.ownBlock → (v'.ownBlock = v.ownBlock ∨ ∀ b, v'.ownBlock = some b → w.heap.size ≤ b) → K (a.put o.dst v') w') :
    if Region.wanted o (yielded ops a.tmps) = true then Oper.wp P o a w K Q else E := by
  have hw : Region.wanted o (yielded ops a.tmps) = true := by simp [Region.wanted, hgd]
  rw [if_pos hw]
  obtain ⟨v', w', hr, h2, h3, h4⟩ := run_append_text (P := P) w base t u o.type e i ht hu hi hz hsize hby v n xs hown s h63 hbytes hbase
  unfold Oper.wp execOp
  simp only [ho, resolve, invoke, builtin, Sem.run_bind, Sem.run_pure, Result.andThen_ok, List.map_toArray, List.map_cons, List.map_nil, hs, hx, hr]
  exact h v' w' h2 h3 h4
end
/-- The writer's block, and the text that it holds. -/
def Txt (w : World) (base wb : Nat) (m : Int) (s : ByteArray) (v : Value) : Prop := Wtr w wb v m ∧ w.ownsRow base 5 1 v s.size (Lib.strCells s) ∧ v.ownBlock ≠ some wb
theorem Txt.new {w w' : World} {base wb : Nat} {m : Int} {s : ByteArray} {v : Value} (h : Txt w base wb m s v) (hn : New w w') : Txt w' base wb m s v :=
  ⟨hn.heap h.1 (fun x => x), hn.ownsRow h.2.1 (fun _ _ x => x), h.2.2⟩
theorem strCells_append (s t : ByteArray) : Lib.strCells (s ++ t) = Lib.strCells s ++ Lib.strCells t := by
  simp [Lib.strCells]
/-- What a step of writing leaves. -/
def Wrote (w : World) (base wb : Nat) (m : Int) (s : ByteArray) (v : Value) (w' : World) : Prop :=
  ∃ v', Txt w' base wb m s v' ∧ Upd (fun b => b = wb ∨ v.ownBlock = some b) w w' ∧ (v'.ownBlock = v.ownBlock ∨ ∀ b, v'.ownBlock = some b → w.heap.size ≤ b)
theorem wtr_put {w : World} {wb : Nat} {bv bv' : Value} {m : Int} (h : Wtr w wb bv m) : Wtr (w.setCell ⟨wb, 0, none⟩ bv') wb bv' m := by
  have := bset h 0 bv'
  simpa [Wtr] using this
/-- An append, and the store of what it gave. -/
theorem wrote_step {w w1 : World} {base wb : Nat} {m : Int} {s t : ByteArray} {v v' : Value} (h : Txt w base wb m s v) (ho : w1.ownsRow base 5 1 v' (s.size + t.size) (Lib.strCells s ++ Lib.strCells t)) (hg : w.grownBy w1 v.ownBlock)
    (hat : v'.ownBlock = v.ownBlock ∨ ∀ b, v'.ownBlock = some b → w.heap.size ≤ b) : Wrote w base wb m (s ++ t) v (w1.setCell ⟨wb, 0, none⟩ v') := by
  have hlt := (wtr_cells h.1).2.2
  have hne : v'.ownBlock ≠ some wb := by
    rcases hat with e | e
    · rw [e]; exact h.2.2
    · intro e2; have := e wb e2; omega
  have hu : Upd (fun b => v.ownBlock = some b) w w1 := Upd.grown (Upd.refl (fun b => v.ownBlock = some b) w) hg (fun b hb _ => hb)
  refine ⟨v', ⟨wtr_put (hu.heap h.1 h.2.2), ?_, hne⟩, (hu.mono fun _ _ e => .inr e).set (.inl rfl) _, hat⟩
  have := ownsRow_setCell_other ho (a := ⟨wb, 0, none⟩) hne v'
  rw [ByteArray.size_append, strCells_append]
  exact this
end Go.Proofs.Ytnnjhafjcdjobaa

namespace Go.Proofs.Ytnnjhafjcdjobaa
open Go.RowKit
set_option linter.unusedVariables false
set_option linter.unusedSimpArgs false

theorem natT_len : ∀ j k, k < 10 ^ (j + 1) → (natT k).size ≤ j + 1 := by
  intro j
  induction j with
  | zero => intro k h; rw [natT_small (by simpa using h)]; exact Nat.le_refl _
  | succ j ih =>
    intro k h
    by_cases h10 : k < 10
    · rw [natT_small h10]; show 1 ≤ _; omega
    · rw [natT_more h10, ByteArray.size_append]
      have := ih (k / 10) (by rw [Nat.pow_succ] at h; omega)
      have h1 : (⟨#[UInt8.ofNat (48 + k % 10)]⟩ : ByteArray).size = 1 := rfl
      omega
theorem numT_len {n : Int} (h : -576460752303423488 ≤ n) (h2 : n ≤ 576460752303423488) : (numT n).size ≤ 20 := by
  have := natT_len 18 n.natAbs (by omega)
  unfold numT
  split
  · rw [ByteArray.size_append]
    have h1 : (⟨#[45]⟩ : ByteArray).size = 1 := rfl
    omega
  · omega
theorem wtr_grown {w w1 : World} {base wb : Nat} {m : Int} {s : ByteArray} {v : Value} (h : Txt w base wb m s v) (hg : w.grownBy w1 v.ownBlock) : Wtr w1 wb v m :=
  (Upd.grown (Upd.refl (fun b => v.ownBlock = some b) w) hg (fun b hb _ => hb)).heap h.1 h.2.2
theorem Wrote.pre {w0 w w' : World} {base wb : Nat} {m : Int} {s : ByteArray} {v : Value} (hn : New w0 w) (h : Wrote w base wb m s v w') : Wrote w0 base wb m s v w' := by
  obtain ⟨v', h1, h2, h3⟩ := h
  exact ⟨v', h1, (hn.mono fun _ _ x => x.elim).trans h2, h3.imp id fun h b hb => Nat.le_trans hn.size (h b hb)⟩
section
variable {P : Program} (w : World)
theorem wpList_append_text {ops : Array Oper} {rest : List Oper} {o : Oper} {a : Act} {Q : Exit → Act → World → Prop} (hgd : o.guard = none) (sl x : Operand) (t u : TypeId)
    (ho : o.op = .call { callee := .builtin .append, args := #[sl, x], argTypes := #[t, u] })
    (base : Nat) (e : TypeId) (i : TypeInfo) (ht : P.underlying t = some (.slice e)) (hu : P.underlying u = some .string) (hi : P.info? e = some i) (hz : i.zero = some (.int .u8 0))
    (hsize : i.size = 1) (hby : i.bytes = 1) (v : Value) (n : Nat) (xs : List Value) (hs : a.eval sl = v) (hown : w.ownsRow base e 1 v n xs) (s : ByteArray) (hx : a.eval x = .string s)
    (h63 : n + s.size ≤ maxLen) (hbytes : n + s.size ≤ 140737488355328) (hbase : base ≤ w.heap.size)
    (h : ∀ v' w', w'.ownsRow base e 1 v' (n + s.size) (xs ++ Lib.strCells s) → w.grownBy w' v.ownBlock → (v'.ownBlock = v.ownBlock ∨ ∀ b, v'.ownBlock = some b → w.heap.size ≤ b) → wpList P ops Q rest (a.put o.dst v') w') : wpList P ops Q (o :: rest) a w := by
  refine wpList_plain hgd fun K hK => ?_
  obtain ⟨v', w', hr, h2, h3, h4⟩ := run_append_text (P := P) w base t u o.type e i ht hu hi hz hsize hby v n xs hown s h63 hbytes hbase
  unfold Oper.wp execOp
  simp only [ho, resolve, invoke, builtin, Sem.run_bind, Sem.run_pure, Result.andThen_ok, List.map_toArray, List.map_cons, List.map_nil, hs, hx, hr]
  exact hK _ _ (h v' w' h2 h3 h4)
end
set_option maxHeartbeats 4000000 in
set_option maxRecDepth 20000 in
theorem put_sym (n : Int) (t : ByteArray) (kv : Value) (hkv : ∃ A l c, kv = .slice A l c) (dot : Bool) (base wb : Nat) (m : Int) (s : ByteArray) (v : Value) (w : World) (hx : Txt w base wb m s v) (hb : base ≤ w.heap.size) (hs : s.size ≤ 3000000) (ht : Small t) :
    Calls Try.prog 80 #[.pointer (some ⟨wb, 0, none⟩), .agg #[.int .u8 2, .int .i64 n, .string t, kv, .bool dot]] w fun e w' => e = .returned (.bool (decide ((s.size : Int) + (t).size ≤ 65536))) ∧ Wrote w base wb m (s ++ t) v w' := by
  obtain ⟨A, l, c, rfl⟩ := hkv
  obtain ⟨i0, hi0, hz0, hz1, hz2⟩ := info_parts info5
  obtain ⟨⟨c0, c1⟩, ⟨cf0, cf1⟩, hlt⟩ := wtr_cells hx.1
  obtain ⟨A2, c2, rfl⟩ := own_form hx.2.1
  have ht2 : (t).size ≤ 1048576 := by unfold Small at ht; omega
  have m3 : s.size + (t).size ≤ maxLen := by unfold maxLen; omega
  have m4 : s.size + (t).size ≤ 140737488355328 := by omega
  have hxa := hx.new (((Upd.refl (fun _ => False) w).alloc (.cells #[.int .u8 2, .int .i64 n, .string t, .slice A l c, .bool dot] 58)).drew)
  have HX := Lib.hid hxa
  have h1 := heap_alloc_new w (.cells #[.int .u8 2, .int .i64 n, .string t, .slice A l c, .bool dot] 58)
  obtain ⟨⟨d0, d1, d2, d3, d4⟩, df⟩ := blk5 h1
  obtain ⟨⟨c0a, c1a⟩, ⟨cf0a, cf1a⟩, hlta⟩ := wtr_cells hxa.1
  have M3 := Lib.hid m3
  have M4 := Lib.hid m4
  clear m3 m4 ht2 hs
  go_enter Try.func80, Try.ntmps80
  go_wp2_with fail
  go_region_law (first
      | (refine step_append_text (w.alloc (.cells #[.int .u8 2, .int .i64 n, .string t, .slice A l c, .bool dot] 58)).drew (by rfl) (.tmp 26) (.tmp 28) 133 9 (by rfl) base 5 i0 Try.underlying133 Try.underlying9 hi0 hz0 hz1 hz2 (.slice A2 s.size c2) s.size (Lib.strCells s) (by rfl) HX.out.2.1 (t) (by rfl) M3.out M4.out (by simp; omega) ?_; intro v1 w4 ho4 hg4 hat4; obtain ⟨A3, c3, rfl⟩ := own_form ho4; have hwr := wrote_step HX.out ho4 hg4 hat4; obtain ⟨⟨y0, y1⟩, ⟨yf0, yf1⟩, ylt⟩ := wtr_cells (wtr_grown HX.out hg4); have HWR := Lib.hid hwr; have hz := (wtr_cells (wtr_put (bv' := .slice A3 (s.size + (t).size) c3) (wtr_grown HX.out hg4))).1.1; have hzf := (wtr_cells (wtr_put (bv' := .slice A3 (s.size + (t).size) c3) (wtr_grown HX.out hg4))).2.1.1; clear ho4 hg4 hat4 hwr))
  all_goals
    go_wp2_with fail
    go_ret
    exact ⟨by simp, HWR.out.pre (((Upd.refl (fun _ => False) w).alloc (.cells #[.int .u8 2, .int .i64 n, .string t, .slice A l c, .bool dot] 58)).drew)⟩
set_option maxHeartbeats 4000000 in
set_option maxRecDepth 20000 in
theorem put_false (n : Int) (t : ByteArray) (kv : Value) (hkv : ∃ A l c, kv = .slice A l c) (dot : Bool) (base wb : Nat) (m : Int) (s : ByteArray) (v : Value) (w : World) (hx : Txt w base wb m s v) (hb : base ≤ w.heap.size) (hs : s.size ≤ 3000000) :
    Calls Try.prog 80 #[.pointer (some ⟨wb, 0, none⟩), .agg #[.int .u8 3, .int .i64 n, .string t, kv, .bool dot]] w fun e w' => e = .returned (.bool (decide ((s.size : Int) + ((⟨#[35, 102]⟩ : ByteArray)).size ≤ 65536))) ∧ Wrote w base wb m (s ++ (⟨#[35, 102]⟩ : ByteArray)) v w' := by
  obtain ⟨A, l, c, rfl⟩ := hkv
  obtain ⟨i0, hi0, hz0, hz1, hz2⟩ := info_parts info5
  obtain ⟨⟨c0, c1⟩, ⟨cf0, cf1⟩, hlt⟩ := wtr_cells hx.1
  obtain ⟨A2, c2, rfl⟩ := own_form hx.2.1
  have ht2 : ((⟨#[35, 102]⟩ : ByteArray)).size ≤ 1048576 := by decide
  have m3 : s.size + ((⟨#[35, 102]⟩ : ByteArray)).size ≤ maxLen := by unfold maxLen; omega
  have m4 : s.size + ((⟨#[35, 102]⟩ : ByteArray)).size ≤ 140737488355328 := by omega
  have hxa := hx.new (((Upd.refl (fun _ => False) w).alloc (.cells #[.int .u8 3, .int .i64 n, .string t, .slice A l c, .bool dot] 58)))
  have HX := Lib.hid hxa
  have h1 := heap_alloc_new w (.cells #[.int .u8 3, .int .i64 n, .string t, .slice A l c, .bool dot] 58)
  obtain ⟨⟨d0, d1, d2, d3, d4⟩, df⟩ := blk5 h1
  obtain ⟨⟨c0a, c1a⟩, ⟨cf0a, cf1a⟩, hlta⟩ := wtr_cells hxa.1
  have M3 := Lib.hid m3
  have M4 := Lib.hid m4
  clear m3 m4 ht2 hs
  go_enter Try.func80, Try.ntmps80
  go_wp2_with (at_builtin; refine wpList_append_text (w.alloc (.cells #[.int .u8 3, .int .i64 n, .string t, .slice A l c, .bool dot] 58)) (by rfl) (.tmp 38) (.const (.string ⟨#[35, 102]⟩)) 133 9 (by rfl) base 5 i0 Try.underlying133 Try.underlying9 hi0 hz0 hz1 hz2 (.slice A2 s.size c2) s.size (Lib.strCells s) (by rfl) HX.out.2.1 ((⟨#[35, 102]⟩ : ByteArray)) (by rfl) M3.out M4.out (by simp; omega) ?_; intro v1 w4 ho4 hg4 hat4; obtain ⟨A3, c3, rfl⟩ := own_form ho4; have hwr := wrote_step HX.out ho4 hg4 hat4; obtain ⟨⟨y0, y1⟩, ⟨yf0, yf1⟩, ylt⟩ := wtr_cells (wtr_grown HX.out hg4); have HWR := Lib.hid hwr; have hz := (wtr_cells (wtr_put (bv' := .slice A3 (s.size + ((⟨#[35, 102]⟩ : ByteArray)).size) c3) (wtr_grown HX.out hg4))).1.1; have hzf := (wtr_cells (wtr_put (bv' := .slice A3 (s.size + ((⟨#[35, 102]⟩ : ByteArray)).size) c3) (wtr_grown HX.out hg4))).2.1.1; clear ho4 hg4 hat4 hwr)
  go_ret
  exact ⟨by rfl, HWR.out.pre (((Upd.refl (fun _ => False) w).alloc (.cells #[.int .u8 3, .int .i64 n, .string t, .slice A l c, .bool dot] 58)))⟩
set_option maxHeartbeats 4000000 in
set_option maxRecDepth 20000 in
theorem put_true (n : Int) (t : ByteArray) (kv : Value) (hkv : ∃ A l c, kv = .slice A l c) (dot : Bool) (base wb : Nat) (m : Int) (s : ByteArray) (v : Value) (w : World) (hx : Txt w base wb m s v) (hb : base ≤ w.heap.size) (hs : s.size ≤ 3000000) :
    Calls Try.prog 80 #[.pointer (some ⟨wb, 0, none⟩), .agg #[.int .u8 4, .int .i64 n, .string t, kv, .bool dot]] w fun e w' => e = .returned (.bool (decide ((s.size : Int) + ((⟨#[35, 116]⟩ : ByteArray)).size ≤ 65536))) ∧ Wrote w base wb m (s ++ (⟨#[35, 116]⟩ : ByteArray)) v w' := by
  obtain ⟨A, l, c, rfl⟩ := hkv
  obtain ⟨i0, hi0, hz0, hz1, hz2⟩ := info_parts info5
  obtain ⟨⟨c0, c1⟩, ⟨cf0, cf1⟩, hlt⟩ := wtr_cells hx.1
  obtain ⟨A2, c2, rfl⟩ := own_form hx.2.1
  have ht2 : ((⟨#[35, 116]⟩ : ByteArray)).size ≤ 1048576 := by decide
  have m3 : s.size + ((⟨#[35, 116]⟩ : ByteArray)).size ≤ maxLen := by unfold maxLen; omega
  have m4 : s.size + ((⟨#[35, 116]⟩ : ByteArray)).size ≤ 140737488355328 := by omega
  have hxa := hx.new (((Upd.refl (fun _ => False) w).alloc (.cells #[.int .u8 4, .int .i64 n, .string t, .slice A l c, .bool dot] 58)))
  have HX := Lib.hid hxa
  have h1 := heap_alloc_new w (.cells #[.int .u8 4, .int .i64 n, .string t, .slice A l c, .bool dot] 58)
  obtain ⟨⟨d0, d1, d2, d3, d4⟩, df⟩ := blk5 h1
  obtain ⟨⟨c0a, c1a⟩, ⟨cf0a, cf1a⟩, hlta⟩ := wtr_cells hxa.1
  have M3 := Lib.hid m3
  have M4 := Lib.hid m4
  clear m3 m4 ht2 hs
  go_enter Try.func80, Try.ntmps80
  go_wp2_with (at_builtin; refine wpList_append_text (w.alloc (.cells #[.int .u8 4, .int .i64 n, .string t, .slice A l c, .bool dot] 58)) (by rfl) (.tmp 48) (.const (.string ⟨#[35, 116]⟩)) 133 9 (by rfl) base 5 i0 Try.underlying133 Try.underlying9 hi0 hz0 hz1 hz2 (.slice A2 s.size c2) s.size (Lib.strCells s) (by rfl) HX.out.2.1 ((⟨#[35, 116]⟩ : ByteArray)) (by rfl) M3.out M4.out (by simp; omega) ?_; intro v1 w4 ho4 hg4 hat4; obtain ⟨A3, c3, rfl⟩ := own_form ho4; have hwr := wrote_step HX.out ho4 hg4 hat4; obtain ⟨⟨y0, y1⟩, ⟨yf0, yf1⟩, ylt⟩ := wtr_cells (wtr_grown HX.out hg4); have HWR := Lib.hid hwr; have hz := (wtr_cells (wtr_put (bv' := .slice A3 (s.size + ((⟨#[35, 116]⟩ : ByteArray)).size) c3) (wtr_grown HX.out hg4))).1.1; have hzf := (wtr_cells (wtr_put (bv' := .slice A3 (s.size + ((⟨#[35, 116]⟩ : ByteArray)).size) c3) (wtr_grown HX.out hg4))).2.1.1; clear ho4 hg4 hat4 hwr)
  go_ret
  exact ⟨by rfl, HWR.out.pre (((Upd.refl (fun _ => False) w).alloc (.cells #[.int .u8 4, .int .i64 n, .string t, .slice A l c, .bool dot] 58)))⟩
set_option maxHeartbeats 4000000 in
set_option maxRecDepth 20000 in
theorem put_int (n : Int) (t : ByteArray) (kv : Value) (hkv : ∃ A l c, kv = .slice A l c) (dot : Bool) (base wb : Nat) (m : Int) (s : ByteArray) (v : Value) (w : World) (hx : Txt w base wb m s v) (hb : base ≤ w.heap.size) (hs : s.size ≤ 3000000) (hn1 : -576460752303423488 ≤ n) (hn2 : n ≤ 576460752303423488) :
    Calls Try.prog 80 #[.pointer (some ⟨wb, 0, none⟩), .agg #[.int .u8 1, .int .i64 n, .string t, kv, .bool dot]] w fun e w' => e = .returned (.bool (decide ((s.size : Int) + (numT n).size ≤ 65536))) ∧ Wrote w base wb m (s ++ numT n) v w' := by
  obtain ⟨A, l, c, rfl⟩ := hkv
  obtain ⟨i0, hi0, hz0, hz1, hz2⟩ := info_parts info5
  obtain ⟨⟨c0, c1⟩, ⟨cf0, cf1⟩, hlt⟩ := wtr_cells hx.1
  obtain ⟨A2, c2, rfl⟩ := own_form hx.2.1
  have ht2 : (numT n).size ≤ 1048576 := by have := numT_len hn1 hn2; omega
  have m3 : s.size + (numT n).size ≤ maxLen := by unfold maxLen; omega
  have m4 : s.size + (numT n).size ≤ 140737488355328 := by omega
  have hdg := Lib.hid (wdigits_calls n hn1 hn2)
  clear hn1 hn2
  have hxa := hx.new (((Upd.refl (fun _ => False) w).alloc (.cells #[.int .u8 1, .int .i64 n, .string t, .slice A l c, .bool dot] 58)).drew)
  have HX := Lib.hid hxa
  have h1 := heap_alloc_new w (.cells #[.int .u8 1, .int .i64 n, .string t, .slice A l c, .bool dot] 58)
  obtain ⟨⟨d0, d1, d2, d3, d4⟩, df⟩ := blk5 h1
  obtain ⟨⟨c0a, c1a⟩, ⟨cf0a, cf1a⟩, hlta⟩ := wtr_cells hxa.1
  have M3 := Lib.hid m3
  have M4 := Lib.hid m4
  clear m3 m4 ht2 hs
  go_enter Try.func80, Try.ntmps80
  go_wp2_with fail
  go_region_law (first
      | (go_simp; go_at_call 109; refine (hdg.out _).mono ?_; rintro e w5 ⟨rfl, rfl⟩)
      | (refine step_append_text (w.alloc (.cells #[.int .u8 1, .int .i64 n, .string t, .slice A l c, .bool dot] 58)).drew (by rfl) (.tmp 13) (.tmp 16) 133 9 (by rfl) base 5 i0 Try.underlying133 Try.underlying9 hi0 hz0 hz1 hz2 (.slice A2 s.size c2) s.size (Lib.strCells s) (by rfl) HX.out.2.1 (numT n) (by rfl) M3.out M4.out (by simp; omega) ?_; intro v1 w4 ho4 hg4 hat4; obtain ⟨A3, c3, rfl⟩ := own_form ho4; have hwr := wrote_step HX.out ho4 hg4 hat4; obtain ⟨⟨y0, y1⟩, ⟨yf0, yf1⟩, ylt⟩ := wtr_cells (wtr_grown HX.out hg4); have HWR := Lib.hid hwr; have hz := (wtr_cells (wtr_put (bv' := .slice A3 (s.size + (numT n).size) c3) (wtr_grown HX.out hg4))).1.1; have hzf := (wtr_cells (wtr_put (bv' := .slice A3 (s.size + (numT n).size) c3) (wtr_grown HX.out hg4))).2.1.1; clear ho4 hg4 hat4 hwr))
  all_goals
    go_wp2_with fail
    go_ret
    exact ⟨by simp, HWR.out.pre (((Upd.refl (fun _ => False) w).alloc (.cells #[.int .u8 1, .int .i64 n, .string t, .slice A l c, .bool dot] 58)).drew)⟩
end Go.Proofs.Ytnnjhafjcdjobaa

namespace Go.Proofs.Ytnnjhafjcdjobaa
open Go.RowKit
set_option linter.unusedVariables false
set_option linter.unusedSimpArgs false

def isQ (l : List Dat) (dot : Bool) : Bool := decide (l.length = 2) && !dot && decide (l.head?.map Dat.k = some 2) && decide (l.head?.map Dat.t = some quoteT)
/-- What is written for the kid at place i. -/
def piece (len : Nat) (dot : Bool) (i : Nat) (t : ByteArray) : ByteArray := (if 0 < i then ⟨#[32]⟩ else ⟨#[]⟩) ++ (if dot = true ∧ i + 1 = len then ⟨#[46, 32]⟩ else ⟨#[]⟩) ++ t
/-- What is written for the first j kids. -/
def preT (ts : List ByteArray) (len : Nat) (dot : Bool) : Nat → ByteArray
  | 0 => ⟨#[]⟩
  | j + 1 => preT ts len dot j ++ piece len dot j (ts.getD j ⟨#[]⟩)
mutual
def txtD : Dat → ByteArray
  | .mk k n t l dot =>
    if k = 1 then numT n else if k = 2 then t else if k = 3 then ⟨#[35, 102]⟩ else if k = 4 then ⟨#[35, 116]⟩
    else if isQ l dot = true then ⟨#[39]⟩ ++ (txtL l).getD 1 ⟨#[]⟩
    else ⟨#[40]⟩ ++ preT (txtL l) (txtL l).length dot (txtL l).length ++ ⟨#[41]⟩
def txtL : List Dat → List ByteArray
  | [] => []
  | d :: l => txtD d :: txtL l
end
theorem txtL_map (l : List Dat) : txtL l = l.map txtD := by
  induction l with
  | nil => simp [txtL]
  | cons d l ih => simp [txtL, ih]
def PutPost (d : Dat) (w : World) (base wb : Nat) (m : Int) (s : ByteArray) (v : Value) (e : Ending) (w' : World) : Prop :=
  (s.size + (txtD d).size ≤ 65536 ∧ e = .returned (.bool true) ∧ Wrote w base wb m (s ++ txtD d) v w') ∨ (65536 < s.size + (txtD d).size ∧ e = .returned (.bool false) ∧ Upd (fun b => b = wb ∨ v.ownBlock = some b ∨ w.heap.size ≤ b) w w')
/-- What a writing function does with a datum. -/
def WRITES (f : FuncId) (d : Dat) : Prop := ∀ (kv : Value) (G : Nat → Prop) (base wb : Nat) (m : Int) (s : ByteArray) (v : Value) (w : World), Sees w G kv d.kids → (∀ b, G b → b < w.heap.size) → ¬ G wb → (∀ b, v.ownBlock = some b → ¬ G b) →
  Txt w base wb m s v → base ≤ w.heap.size → s.size + 4 * d.hgt ≤ 2000000 → d.hgt ≤ 70000 → d.wee → mayD d = true → Calls Try.prog f #[.pointer (some ⟨wb, 0, none⟩), datV d kv] w (PutPost d w base wb m s v)
theorem put_post {d : Dat} {w w' : World} {base wb : Nat} {m : Int} {s T : ByteArray} {v : Value} {e : Ending} (ht : txtD d = T) (h : e = .returned (.bool (decide ((s.size : Int) + T.size ≤ 65536))) ∧ Wrote w base wb m (s ++ T) v w') : PutPost d w base wb m s v e w' := by
  subst ht
  obtain ⟨rfl, h⟩ := h
  by_cases hc : s.size + (txtD d).size ≤ 65536
  · exact .inl ⟨hc, by rw [decide_eq_true (by omega)], h⟩
  · obtain ⟨v', h1, h2, h3⟩ := h
    exact .inr ⟨by omega, by rw [decide_eq_false (by omega)], h2.mono fun b _ e => e.imp id .inl⟩
set_option maxHeartbeats 4000000 in
set_option maxRecDepth 20000 in
theorem put_of (d : Dat) (hl : d.k = 5 → WRITES 110 d) : WRITES 80 d := by
  intro kv G base wb m s v w hs hGb hG hGv hx hb hss hhg hwee hmay
  obtain ⟨k, n, t, kids, dot⟩ := d
  have hform : ∃ A l c, kv = .slice A l c := by
    obtain ⟨es, _, hseen, _⟩ := hs.inv
    obtain ⟨A, c, rfl⟩ := hseen.form
    exact ⟨_, _, _, rfl⟩
  have hm0 := hmay
  rw [mayD] at hmay
  rw [Dat.wee] at hwee
  by_cases h1 : k = 1
  · subst h1
    simp at hmay
    exact (put_int n t kv hform dot base wb m s v w hx hb (by omega) (by omega) (by omega)).mono fun e w' h => put_post (by rw [txtD]; simp) h
  · by_cases h2 : k = 2
    · subst h2
      exact (put_sym n t kv hform dot base wb m s v w hx hb (by omega) hwee.1).mono fun e w' h => put_post (by rw [txtD]; simp) h
    · by_cases h3 : k = 3
      · subst h3
        exact (put_false n t kv hform dot base wb m s v w hx hb (by omega)).mono fun e w' h => put_post (by rw [txtD]; simp) h
      · by_cases h4 : k = 4
        · subst h4
          exact (put_true n t kv hform dot base wb m s v w hx hb (by omega)).mono fun e w' h => put_post (by rw [txtD]; simp) h
        · by_cases h5 : k = 5
          · subst h5
            have hW := hl rfl
            have hin : New w (w.alloc (.cells #[.int .u8 5, .int .i64 n, .string t, kv, .bool dot] 58)) := (Upd.refl (fun _ => False) w).alloc _
            have hc := hW kv G base wb m s v _ (hs.new hin) (fun b hb => Nat.lt_of_lt_of_le (hGb b hb) hin.size) hG hGv (hx.new hin) (Nat.le_trans hb hin.size) hss hhg (by rw [Dat.wee]; exact hwee) hm0
            have h1 := heap_alloc_new w (.cells #[.int .u8 5, .int .i64 n, .string t, kv, .bool dot] 58)
            obtain ⟨⟨d0, d1, d2, d3, d4⟩, df⟩ := blk5 h1
            have HC := Lib.hid hc
            have HN := Lib.hid hin
            obtain ⟨A, l, c, rfl⟩ := hform
            clear hc hin hs hGb hG hGv hx hb hss hhg hwee hm0 hmay hW hl h1
            unfold datV at HC ⊢
            simp only [Dat.k, Dat.n, Dat.t, Dat.dot] at HC ⊢
            go_enter Try.func80, Try.ntmps80
            go_wp2_with fail
            refine HC.out.mono ?_
            rintro e w' h
            have HH := Lib.hid h
            rcases h with ⟨q1, rfl, q2⟩ | ⟨q1, rfl, q2⟩
            · clear q1 q2
              go_wp2_with fail
              go_ret
              rcases HH.out with ⟨q1, _, q2⟩ | ⟨_, q3, _⟩
              · exact .inl ⟨q1, rfl, q2.pre HN.out⟩
              · cases q3
            · clear q1 q2
              go_wp2_with fail
              go_ret
              rcases HH.out with ⟨_, q3, _⟩ | ⟨q1, _, q2⟩
              · cases q3
              · exact .inr ⟨q1, rfl, (HN.out.mono fun _ _ x => x.elim).trans' q2 (fun b hb e => by
                  rcases e with e | e | e
                  · exact .inl e
                  · exact .inr (.inl e)
                  · exact .inr (.inr (Nat.le_trans HN.out.size e)))⟩
          · exact absurd hmay (by simp [h1, h2, h3, h4, h5])
end Go.Proofs.Ytnnjhafjcdjobaa

namespace Go.Proofs.Ytnnjhafjcdjobaa
open Go.RowKit
set_option linter.unusedVariables false
set_option linter.unusedSimpArgs false

theorem byte_one (b : Int) : ∀ u ∈ [Value.int .u8 b], u.oneCell' = true := by
  intro u hu
  rw [List.mem_singleton.1 hu]; rfl
/-- A byte appended, and the store of what it gave. -/
theorem wrote_byte {w w1 : World} {base wb : Nat} {m : Int} {s : ByteArray} {v v' : Value} {c : UInt8} (ob : Obj) (h : Txt w base wb m s v) (ho : w1.ownsRow base 5 1 v' (s.size + 1) (Lib.strCells s ++ [.int .u8 c.toNat])) (hg : (w.alloc ob).grownBy w1 v.ownBlock)
    (hat : v'.ownBlock = v.ownBlock ∨ v'.ownBlock = some (w.alloc ob).heap.size) : Wrote w base wb m (s ++ ⟨#[c]⟩) v (w1.setCell ⟨wb, 0, none⟩ v') := by
  have hn : New w (w.alloc ob) := (Upd.refl (fun _ => False) w).alloc ob
  have h2 := wrote_step (t := ⟨#[c]⟩) (h.new hn) ho hg (hat.imp id fun e b hb => by rw [e] at hb; injection hb with hb; omega)
  exact h2.pre hn
theorem wrote_trans {w w5 w6 : World} {base wb : Nat} {m : Int} {s : ByteArray} {v v' : Value} (hu : Upd (fun b => b = wb ∨ v.ownBlock = some b) w w5) (hv : v'.ownBlock = v.ownBlock ∨ ∀ b, v'.ownBlock = some b → w.heap.size ≤ b) (h : Wrote w5 base wb m s v' w6) : Wrote w base wb m s v w6 := by
  obtain ⟨v2, h1, h2, h3⟩ := h
  refine ⟨v2, h1, hu.trans' h2 (fun b hb e => ?_), ?_⟩
  · rcases e with e | e
    · exact .inl e
    · rcases hv with e2 | e2
      · exact .inr (e2 ▸ e)
      · have := e2 b e; omega
  · rcases h3 with e | e
    · rw [e]; exact hv
    · exact .inr fun b hb => Nat.le_trans hu.size (e b hb)
theorem upd_trans {w w5 w6 : World} {wb : Nat} {v v' : Value} (hu : Upd (fun b => b = wb ∨ v.ownBlock = some b) w w5) (hv : v'.ownBlock = v.ownBlock ∨ ∀ b, v'.ownBlock = some b → w.heap.size ≤ b) (h : Upd (fun b => b = wb ∨ v'.ownBlock = some b ∨ w5.heap.size ≤ b) w5 w6) :
    Upd (fun b => b = wb ∨ v.ownBlock = some b ∨ w.heap.size ≤ b) w w6 := by
  refine (hu.mono fun b _ e => e.imp id .inl).trans' h (fun b hb e => ?_)
  have := hu.size
  rcases e with e | e | e
  · exact .inl e
  · rcases hv with e2 | e2
    · exact .inr (.inl (e2 ▸ e))
    · exact .inr (.inr (e2 b e))
  · exact .inr (.inr (by omega))
set_option maxHeartbeats 4000000 in
set_option maxRecDepth 20000 in
theorem list_quote (n : Int) (t : ByteArray) (a b : El) (A : Option Addr) (c : Nat) (ih : WRITES 80 b.d) (ha : a.d.k = 2) (ha2 : a.d.t = quoteT) (G : Nat → Prop) (base wb : Nat) (m : Int) (s : ByteArray) (v : Value) (w : World) (hs : Seen w G (.slice A 2 c) [a, b]) (hks : Sees w G b.kv b.d.kids)
    (hGb : ∀ b, G b → b < w.heap.size) (hG : ¬ G wb) (hGv : ∀ b, v.ownBlock = some b → ¬ G b) (hx : Txt w base wb m s v) (hb : base ≤ w.heap.size) (hss : s.size + 1 + 4 * b.d.hgt ≤ 2000000) (hhg : b.d.hgt ≤ 70000) (hwee : b.d.wee) (hmay : mayD b.d = true) (hT : txtD (.mk 5 n t [a.d, b.d] false) = ⟨#[39]⟩ ++ txtD b.d) :
    Calls Try.prog 110 #[.pointer (some ⟨wb, 0, none⟩), .agg #[.int .u8 5, .int .i64 n, .string t, .slice A 2 c, .bool false]] w (PutPost (.mk 5 n t [a.d, b.d] false) w base wb m s v) := by
  obtain ⟨i0, hi0, hz0, hz1, hz2⟩ := info_parts info5
  obtain ⟨⟨c0, c1⟩, ⟨cf0, cf1⟩, hlt⟩ := wtr_cells hx.1
  obtain ⟨A2, c2, rfl⟩ := own_form hx.2.1
  have m3 : s.size + 1 ≤ maxLen := by unfold maxLen; omega
  have m4 : (s.size + 1) * 1 ≤ 140737488355328 := by omega
  have hn1 : New w (w.alloc (.cells #[.int .u8 5, .int .i64 n, .string t, .slice A 2 c, .bool false] 58)) := (Upd.refl (fun _ => False) w).alloc _
  obtain ⟨g, o, cc, hA, hGg, hltg, x0, x1, x2, x3, x4⟩ := (hs.new hn1).at 0 (by simp)
  obtain ⟨g2, o2, cc2, hA2, hGg2, hltg2, y0, y1, y2, y3, y4⟩ := (hs.new hn1).at 1 (by simp)
  simp only [List.length_cons, List.length_nil, Nat.zero_add, Value.slice.injEq, true_and] at hA hA2
  obtain ⟨rfl, rfl⟩ := hA
  simp only [Option.some.injEq, Addr.mk.injEq] at hA2
  obtain ⟨⟨rfl, rfl, -⟩, -⟩ := hA2
  simp only [List.getElem_cons_zero, List.getElem_cons_succ, Nat.zero_mul, Nat.add_zero, Nat.one_mul, ha, ha2] at x0 x1 x2 x3 x4 y0 y1 y2 y3 y4
  have HX := Lib.hid (hx.new hn1)
  have M3 := Lib.hid m3
  have M4 := Lib.hid m4
  have hq : (quoteT.toList == [113, 117, 111, 116, 101]) = true := by kernel_rfl
  clear m3 m4
  go_enter Try.func110, Try.ntmps110
  have HGv := Lib.hid hGv
  have hvl : ∀ q, (Value.slice A2 s.size c2).ownBlock = some q → q < w.heap.size := fun q hq => (own_lt hx.2.1 q hq).2
  have HVL := Lib.hid hvl
  have HS := Lib.hid hs
  have HKS := Lib.hid hks
  have HN1 := Lib.hid hn1
  have hbx := heap_alloc_new w (.cells #[.int .u8 5, .int .i64 n, .string t, .slice (some ⟨g, o, none⟩) 2 c, .bool false] 58)
  have HBX := Lib.hid hbx
  clear hGv hvl hs hks hn1 hx hbx
  go_upto_region 3 with (at_builtin; refine wpList_append_row ((w.alloc (.cells #[.int .u8 5, .int .i64 n, .string t, .slice (some ⟨g, o, none⟩) 2 c, .bool false] 58)).alloc (.cells #[.int .u8 39] 5)) (by rfl) (.tmp 36) (.tmp 37) 133 (by rfl) base 5 i0 _ 1 1 Try.underlying133 hi0 hz0 hz1 hz2 rfl (by decide) (.slice A2 s.size c2) s.size (Lib.strCells s) (by rfl) (HX.out.2.1.alloc (.cells #[.int .u8 39] 5)) (.slice (some ⟨w.heap.size + 1, 0, none⟩) 1 1) 1 [.int .u8 39] (by rfl) (.inr ⟨w.heap.size + 1, 1, rfl, rfl, World.news_of_block (alloc2 w (.cells #[.int .u8 5, .int .i64 n, .string t, .slice (some ⟨g, o, none⟩) 2 c, .bool false] 58) (.cells #[.int .u8 39] 5))⟩) (byte_one 39) M3.out M4.out (by simp; omega) ?_; intro v1 w4 ho4 hg4 hat4; obtain ⟨A3, c3, rfl⟩ := own_form ho4; have hwr := wrote_byte (c := 39) (.cells #[.int .u8 39] 5) HX.out ho4 hg4 hat4; obtain ⟨⟨z0, z1⟩, ⟨zf0, zf1⟩, zlt⟩ := wtr_cells (wtr_grown (HX.out.new ((Upd.refl (fun _ => False) (w.alloc (.cells #[.int .u8 5, .int .i64 n, .string t, .slice (some ⟨g, o, none⟩) 2 c, .bool false] 58))).alloc (.cells #[.int .u8 39] 5))) hg4); have HWR := Lib.hid hwr; clear ho4 hg4 hat4 hwr)
  generalize w4.setCell ⟨wb, 0, none⟩ (.slice A3 (s.size + 1) c3) = W5 at *
  obtain ⟨v', ht5, hu5, hv5⟩ := HWR.out
  have hfG : ∀ q, G q → ¬ (q = wb ∨ (Value.slice A2 s.size c2).ownBlock = some q) := fun q hq e => by
    rcases e with e | e
    · exact hG (e ▸ hq)
    · exact HGv.out q e hq
  obtain ⟨⟨e0, e1, e2, e3, e4⟩, ef⟩ := blk5 (hu5.heap HBX.out (fun e => by
    rcases e with e | e
    · omega
    · have := HVL.out _ e; omega))
  obtain ⟨g3, o3, cc3, hA3, hGg3, hltg3, u0, u1, u2, u3, u4⟩ := ((HS.out.new HN1.out).upd hu5 hfG).at 1 (by simp)
  simp only [List.length_cons, List.length_nil, Nat.zero_add, Value.slice.injEq, true_and, Option.some.injEq, Addr.mk.injEq] at hA3
  obtain ⟨⟨rfl, rfl, -⟩, -⟩ := hA3
  simp only [List.getElem_cons_succ, List.getElem_cons_zero, Nat.one_mul] at u0 u1 u2 u3 u4
  have hcall := ih b.kv G base wb m (s ++ ⟨#[39]⟩) v' W5 ((HKS.out.new HN1.out).upd hu5 hfG) (fun q hq => Nat.lt_of_lt_of_le (Nat.lt_of_lt_of_le (hGb q hq) HN1.out.size) hu5.size) hG (fun q hq hg => by
    rcases hv5 with e | e
    · rw [e] at hq; exact HGv.out q hq hg
    · have h1 := e q hq; have h2 := hGb q hg; have h3 := HN1.out.size; omega) ht5 (Nat.le_trans (Nat.le_trans hb HN1.out.size) hu5.size) (by rw [ByteArray.size_append]; have : (⟨#[39]⟩ : ByteArray).size = 1 := rfl; omega) hhg hwee hmay
  obtain ⟨es3, _, hse3, _⟩ := HKS.out.inv
  obtain ⟨A4, c4, hkv⟩ := hse3.form
  have HC := Lib.hid hcall
  have HU5 := Lib.hid hu5
  have HV5 := Lib.hid hv5
  clear hcall hu5 hv5 z0 z1 zf0 zf1 zlt x0 x1 x2 x3 x4 y0 y1 y2 y3 y4 HWR ih
  unfold datV at HC
  rw [hkv] at HC u3
  have hsz1 : (⟨#[39]⟩ : ByteArray).size = 1 := rfl
  go_wp2_with fail
  refine HC.out.mono ?_
  rintro e w6 h
  have HH := Lib.hid h
  rcases h with ⟨q1, rfl, q2⟩ | ⟨q1, rfl, q2⟩
  · clear q1 q2
    go_wp2_with fail
    go_ret
    rcases HH.out with ⟨q1, _, q2⟩ | ⟨_, q3, _⟩
    · refine .inl ⟨?_, rfl, ?_⟩
      · rw [hT]; simp only [ByteArray.size_append] at q1 ⊢; omega
      · rw [hT, ← ByteArray.append_assoc]
        exact (wrote_trans HU5.out HV5.out q2).pre HN1.out
    · cases q3
  · clear q1 q2
    go_wp2_with fail
    go_ret
    rcases HH.out with ⟨_, q3, _⟩ | ⟨q1, _, q2⟩
    · cases q3
    · refine .inr ⟨?_, rfl, ?_⟩
      · rw [hT]; simp only [ByteArray.size_append] at q1 ⊢; omega
      · exact (HN1.out.mono fun _ _ x => x.elim).trans' (upd_trans HU5.out HV5.out q2) (fun b hb e => by
          rcases e with e | e | e
          · exact .inl e
          · exact .inr (.inl e)
          · exact .inr (.inr (Nat.le_trans HN1.out.size e)))
end Go.Proofs.Ytnnjhafjcdjobaa

namespace Go.Proofs.Ytnnjhafjcdjobaa
open Go.RowKit
set_option linter.unusedVariables false
set_option linter.unusedSimpArgs false

/-- What the loop holds: so much is written. -/
def Sofar (w : World) (base wb : Nat) (m : Int) (s : ByteArray) (v : Value) (wr : World) : Prop := Wrote w base wb m s v wr
theorem Sofar.next {w w5 w6 : World} {base wb : Nat} {m : Int} {s s2 : ByteArray} {v : Value} (h : Sofar w base wb m s v w5) (h2 : ∀ v', Txt w5 base wb m s v' → (v'.ownBlock = v.ownBlock ∨ ∀ b, v'.ownBlock = some b → w.heap.size ≤ b) → Wrote w5 base wb m s2 v' w6) : Sofar w base wb m s2 v w6 := by
  obtain ⟨v', h1, hu, hv⟩ := h
  exact wrote_trans hu hv (h2 v' h1 hv)
theorem preT_mono (ts : List ByteArray) (len : Nat) (dot : Bool) (j : Nat) : (preT ts len dot j).size ≤ (preT ts len dot (j + 1)).size := by
  rw [preT, ByteArray.size_append]; omega
theorem preT_le (ts : List ByteArray) (len : Nat) (dot : Bool) (j k : Nat) (h : j ≤ k) : (preT ts len dot j).size ≤ (preT ts len dot k).size := by
  induction k with
  | zero => have : j = 0 := by omega
            subst this; exact Nat.le_refl _
  | succ k ih =>
    rcases Nat.lt_or_ge j (k + 1) with h1 | h1
    · exact Nat.le_trans (ih (by omega)) (preT_mono ts len dot k)
    · have : j = k + 1 := by omega
      subst this; exact Nat.le_refl _
theorem txt_list (n : Int) (t : ByteArray) (l : List Dat) (dot : Bool) (h : isQ l dot = false) : txtD (.mk 5 n t l dot) = ⟨#[40]⟩ ++ preT (l.map txtD) l.length dot l.length ++ ⟨#[41]⟩ := by
  rw [txtD, if_neg (by decide), if_neg (by decide), if_neg (by decide), if_neg (by decide), if_neg (by simp [h]), txtL_map, List.length_map]
theorem txt_quote (n : Int) (t : ByteArray) (a b : Dat) (h1 : a.k = 2) (h2 : a.t = quoteT) : txtD (.mk 5 n t [a, b] false) = ⟨#[39]⟩ ++ txtD b := by
  rw [txtD, if_neg (by decide), if_neg (by decide), if_neg (by decide), if_neg (by decide), if_pos (by simp [isQ, h1, h2]), txtL_map]
  rfl
end Go.Proofs.Ytnnjhafjcdjobaa
