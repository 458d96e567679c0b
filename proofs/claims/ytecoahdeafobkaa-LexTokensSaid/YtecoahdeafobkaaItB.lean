/- Ranges over All: what a loop's steps keep; append within a fence; the marks at the end. -/
import Derived.Test.YtecoahdeafobkaaItA
import Derived.Sort.QuietIn
namespace Go.Proofs.Ytecoahdeafobkaa
open Go.RowKit Go.Shelf
set_option linter.unusedVariables false
set_option linter.unusedSimpArgs false

/-- Append to a row of one's own: in place, where there is room, or in new memory. -/
def Grew3 (w w' : World) (v v' : Value) (n m : Nat) : Prop := (∃ q cap, v = .slice (some ⟨q, 0, none⟩) n cap ∧ n + m ≤ cap ∧ v'.ownBlock = some q ∧ w.grownBy w' (some q)) ∨ (v'.ownBlock = some w.heap.size ∧ w.grownBy w' none)
section
variable {P : Program} {F : Fence} {nF : Nat} (w : World)
theorem run_append3 (base : Nat) (t ty e : TypeId) (i : TypeInfo) (z : Value) (size bytes : Nat) (ht : P.underlying t = some (.slice e)) (hi : P.info? e = some i) (hz : i.zero = some z)
    (hsize : i.size = size) (hby : i.bytes = bytes) (hzs : z.cells.size = size) (hsz : 0 < size)
    (v : Value) (n : Nat) (xs : List Value) (hown : w.ownsRow base e size v n xs) (g : Nat) (m c : Nat) (news : List Value) (hm : 0 < m) (hl : news.length = m * size) (hnews : ∀ j u, news[j]? = some u → w.cell? ((⟨g, 0, none⟩ : Addr).add j) = some u) (h1 : ∀ u ∈ news, u.oneCell' = true)
    (h63 : n + m ≤ maxLen) (hbytes : (n + m) * bytes ≤ 140737488355328) (hbase : base ≤ w.heap.size) :
    ∃ v' w', (Builtin.append_ #[t, t] ty #[v, .slice (some ⟨g, 0, none⟩) m c]).run P w = .ok v' w' ∧ w'.ownsRow base e size v' (n + m) (xs ++ news) ∧ Grew3 w w' v v' n m := by
  obtain ⟨v', w', hr, h2, h3, _, h5⟩ := run_append_own_at (P := P) w base t ty e i z size bytes ht hi hz hsize hby hzs hsz v n xs hown ⟨g, 0, none⟩ m c news hl hnews h1 h63 hbytes hbase
  refine ⟨v', w', hr, h2, ?_⟩
  rcases hown.2 with ⟨rfl, rfl⟩ | ⟨q, cap, cur, rfl, hbg, hg, hnc, hcm, hcs, htake⟩
  · rcases h5 with h5 | h5
    · rcases h2.2 with ⟨_, h0⟩ | ⟨q2, cap2, cur2, rfl, _⟩
      · omega
      · simp [Value.ownBlock] at h5
    · exact .inr ⟨h5, h3⟩
  · by_cases hroom : n + m ≤ cap
    · have hfit : n * i.size + news.length ≤ cur.size := by rw [hl, hcs, hsize, ← Nat.add_mul]; exact Nat.mul_le_mul_right _ hroom
      have hr2 := run_append_room (P := P) w t ty e i ht hi q n cap cur hg ⟨g, 0, none⟩ m c news (by rw [hsize]; exact hl) hnews h1 hroom hfit
      rw [hr] at hr2
      injection hr2 with e1 e2
      subst e1
      exact .inl ⟨q, cap, rfl, hroom, rfl, h3⟩
    · have hsmall : n + m ≤ 9223372036854775807 := by simp only [maxLen] at h63; omega
      have holds : ∀ j u, xs[j]? = some u → w.cell? ((⟨q, 0, none⟩ : Addr).add j) = some u := hown.cells (g := q) rfl
      have hr2 := run_append_grow (P := P) w t ty e i z ht hi hz ⟨q, 0, none⟩ n cap xs (by rw [hsize]; exact hown.1) holds ⟨g, 0, none⟩ m c news (by rw [hsize]; exact hl) hnews (by omega) (by omega) (growslice_fits (by omega) (by rw [hby]; exact hbytes))
      rw [hr] at hr2
      injection hr2 with e1 e2
      subst e1 e2
      exact .inr ⟨rfl, ⟨rfl, rfl, rfl, by simp, fun k hk _ => Below.heap_alloc w.drew _ k hk⟩⟩
theorem wpListIn_append3 {ops : Array Oper} {rest : List Oper} {o : Oper} {a : Act} {Q : Exit → Act → World → Prop} (hgd : o.guard = none) (s x : Operand) (t : TypeId)
    (ho : o.op = .call { callee := .builtin .append, args := #[s, x], argTypes := #[t, t] })
    (base : Nat) (e : TypeId) (i : TypeInfo) (z : Value) (size bytes : Nat) (ht : P.underlying t = some (.slice e)) (hi : P.info? e = some i) (hz : i.zero = some z)
    (hsize : i.size = size) (hby : i.bytes = bytes) (hzs : z.cells.size = size) (hsz : 0 < size)
    (v : Value) (n : Nat) (xs : List Value) (hs : a.eval s = v) (hown : w.ownsRow base e size v n xs) (g m c : Nat) (news : List Value) (hx : a.eval x = .slice (some ⟨g, 0, none⟩) m c) (hm : 0 < m) (hl : news.length = m * size) (hnews : ∀ j u, news[j]? = some u → w.cell? ((⟨g, 0, none⟩ : Addr).add j) = some u) (h1 : ∀ u ∈ news, u.oneCell' = true)
    (h63 : n + m ≤ maxLen) (hbytes : (n + m) * bytes ≤ 140737488355328) (hbase : base ≤ w.heap.size)
    (h : ∀ v' w', w'.ownsRow base e size v' (n + m) (xs ++ news) → Grew3 w w' v v' n m → wpListIn F nF P ops Q rest (a.put o.dst v') w') : wpListIn F nF P ops Q (o :: rest) a w := by
  refine wpListIn_plain hgd fun K hK => ?_
  obtain ⟨v', w', hr, h2, h3⟩ := run_append3 (P := P) w base t o.type e i z size bytes ht hi hz hsize hby hzs hsz v n xs hown g m c news hm hl hnews h1 h63 hbytes hbase
  unfold Oper.wpIn
  refine ⟨by simp [Oper.about, ho, resolve, Target.leads, Sem.run_pure], ?_⟩
  rw [Oper.semAt_plain F _ _ (by rw [ho]; intro c hc'; cases hc')]
  simp [execOp, ho, resolve, invoke, builtin, hs, hx, hr, Result.andThen]
  exact hK _ _ (h v' w' h2 h3)
end

/-- What the steps of a loop's body keep: whatever is no cells, tokens' boxes, the source's box. -/
def Kpt (W W' : World) : Prop := KeepsOthers W W' ∧ KeepT W W'
theorem Kpt.refl (W : World) : Kpt W W := ⟨KeepsOthers.refl W, fun b o h _ => h⟩
theorem Kpt.trans {A B C : World} (h : Kpt A B) (k : Kpt B C) : Kpt A C := ⟨h.1.trans k.1, h.2.trans k.2⟩
theorem Kpt.upd {F : Nat → Prop} {W W' : World} (h : Upd F W W') (hF : ∀ b o, F b → W.heap[b]? = some o → o.isCells = true ∧ ¬ KeepO o) : Kpt W W' :=
  ⟨⟨h.size, fun k o hk ho => h.heap hk (fun hf => by have := (hF k o hf hk).1; rw [ho] at this; cases this)⟩, KeepT.upd h (fun b o hf hb => (hF b o hf hb).2)⟩
theorem Kpt.new {W W' : World} (h : New W W') : Kpt W W' := Kpt.upd h (fun _ _ x => x.elim)
theorem KeepO.other {v : Value} {t : TypeId} (ht : t ≠ 9) : ¬ KeepO (.cells #[v] t (0, 0)) := by
  rintro (⟨c0, c1, c2, c3, h⟩ | ⟨s, h⟩)
  · simp at h
  · simp at h; exact ht h.2
theorem Kpt.set {W : World} {b i : Nat} {v u : Value} {t : TypeId} (h : W.heap[b]? = some (.cells #[v] t (0, 0))) (ht : t ≠ 9) : Kpt W (W.setCell ⟨b, i, none⟩ u) :=
  Kpt.upd ((Upd.refl (fun k => k = b) W).set rfl u) (fun k o hk ho => by subst hk; rw [h] at ho; injection ho with ho; subst ho; exact ⟨rfl, KeepO.other ht⟩)
/-- An append keeps boxes: in place there is room for two tokens. -/
theorem Kpt.grew {W W' : World} {base n : Nat} {v v' : Value} {xs : List Value} (h : Grew3 W W' v v' n 1) (ho : W.ownsRow base 34 4 v n xs) (h0 : n = 0 → v = .slice none 0 0) : Kpt W W' := by
  rcases h with ⟨q, cap, rfl, hc, _, hg⟩ | ⟨_, hg⟩
  · have hn : n ≠ 0 := fun e => by have := h0 e; simp at this
    rcases ho.2 with ⟨e, _⟩ | ⟨g', cap', cur, hv, hb, hgq, hnc, hcm, hcs, _⟩
    · simp at e
    · simp only [Value.slice.injEq, Option.some.injEq, Addr.mk.injEq, and_true, true_and] at hv
      obtain ⟨rfl, rfl⟩ := hv
      refine Kpt.upd (Upd.grown (Upd.refl (fun b => b = q) W) hg (fun b hb _ => by simp only [Option.some.injEq] at hb; exact hb.symm)) (fun b o hb hob => ?_)
      subst hb
      rw [hgq] at hob
      injection hob with hob
      subst hob
      refine ⟨rfl, ?_⟩
      rintro (⟨c0, c1, c2, c3, h⟩ | ⟨s, h⟩)
      · simp only [Obj.cells.injEq] at h
        rw [h.1] at hcs
        simp at hcs
        omega
      · simp only [Obj.cells.injEq] at h
        rw [h.1] at hcs
        simp at hcs
        omega
  · exact Kpt.new (Upd.grown (Upd.refl (fun _ => False) W) hg (fun b hb _ => by cases hb))
theorem Grew3.upd {w w' : World} {v v' : Value} {n m : Nat} (h : Grew3 w w' v v' n m) : Upd (fun b => v.ownBlock = some b) w w' := by
  rcases h with ⟨q, cap, rfl, _, _, h2⟩ | ⟨_, h2⟩
  · exact (Upd.refl _ w).grown h2 (fun b hb _ => hb)
  · exact (Upd.refl _ w).grown h2 (fun b hb _ => by cases hb)
/-- What lay when the loop began lies as it lay. -/
theorem ownFrom_upd {β : Type} {B : Nat} {F : Nat → Prop} {W0 : World} (hB : W0.heap.size ≤ B) : OwnFrom B (fun (_ : β) W => Upd F W0 W) := fun _ X Y row hs hg hr =>
  hs.trans' (Upd.grown (F := fun b => B ≤ b) (Upd.refl _ X) hg (fun b hb _ => (hr b hb).1)) (fun b hb e => by omega)
theorem heap_kept {W W' : World} {row : Option Nat} (hg : W.grownBy W' row) (hr : ∀ r, row = some r → ∃ o : Obj, W.heap[r]? = some o ∧ o.isCells = false) {b : Nat} {cs : Array Value} {t : TypeId} (h : W.heap[b]? = some (.cells cs t (0, 0))) : W'.heap[b]? = some (.cells cs t (0, 0)) :=
  (grownBy_keeps_cells hg hr h rfl).trans h
theorem row_kept {W W' : World} {row : Option Nat} (hg : W.grownBy W' row) (hr : ∀ r, row = some r → ∃ o : Obj, W.heap[r]? = some o ∧ o.isCells = false) {base n : Nat} {e : TypeId} {size : Nat} {v : Value} {xs : List Value} (h : W.ownsRow base e size v n xs) : W'.ownsRow base e size v n xs := by
  refine ⟨h.1, ?_⟩
  rcases h.2 with hn | ⟨g, cap, cur, rfl, hb, hgg, rest⟩
  · exact .inl hn
  · exact .inr ⟨g, cap, cur, rfl, hb, heap_kept hg hr hgg, rest⟩

/-- At the end all marks are taken up. -/
theorem leaves_marks {F : Fence} {n : Nat} {P : Program} {fn : Func} {tmps : Array Value} {R : Ending → World → Prop} : ∀ (Ds : List Nat) (w : World), Ds.Nodup → (∀ D ∈ Ds, w.heap[D]? = some (.deferred (some []))) →
    (∀ w', Upd (fun b => b ∈ Ds) w w' → LeavesIn F n P fn tmps R [] .returning w') → LeavesInM F n P fn tmps R (Ds.map fun D => { target := .collected D, args := #[] }) .returning w := by
  intro Ds
  induction Ds with
  | nil => intro w _ _ h; exact h w (Upd.refl _ w)
  | cons D Ds ih =>
    intro w hnd hD h
    obtain ⟨h1, h2⟩ := List.nodup_cons.1 hnd
    have hK := hD D List.mem_cons_self
    have hu : Upd (fun b => b = D) w (w.putObj D (.deferred none)) := Upd.grown (Upd.refl (fun b => b = D) w) (grownBy_putObj' w D _) (fun b hb _ => by simp only [Option.some.injEq] at hb; exact hb.symm)
    refine ⟨by simp, .inl ⟨_, _, rfl, run_takeDeferred hK, ih _ h2 (fun E hE => hu.heap (hD E (List.mem_cons_of_mem _ hE)) (fun e => h1 (e ▸ hE))) (fun w' hw => h w' ?_)⟩⟩
    exact (hu.mono (fun b _ e => by rw [e]; exact List.mem_cons_self)).trans (hw.mono (fun b _ e => List.mem_cons_of_mem _ e))
/-- All hands back what the ranges go through. -/
theorem all_stops (s : ByteArray) (hs : Small s) (n : Nat) (hn : 1 ≤ n) (Bn : Nat) (w : World) (hBn : w.heap[Bn]? = some (.cells #[.string s] 9 (0, 0))) :
    SeqStopsK Fence.wide n Try.prog 28 #[.pointer (some ⟨Bn, 0, none⟩)] (fun x : Tok => #[Tok.v x]) KeepT (fun ys => ys = allR s) (fun pre => pre <+: allR s) (allR s).length w := fun l J Jx W hW hJ hJx hY h0 =>
  iter_in s hs n hn l Bn W.heap.size J Jx hJ hJx hY W ((hW.block Bn (Array.getElem?_eq_some_iff.1 hBn).1).trans hBn) h0
set_option maxHeartbeats 1000000 in
theorem all_calls (s : ByteArray) (w : World) : Calls Try.prog 18 #[.string s] w fun e w' => e = .returned (.func (.func 28) #[] #[.pointer (some ⟨w.heap.size, 0, none⟩)]) ∧ w' = w.alloc (.cells #[.string s] 9) := by
  go_enter Try.func18, Try.ntmps18
  go_wp2_with fail
  go_ret
  exact ⟨rfl, rfl⟩

theorem halloc {w : World} {g : Nat} {o : Obj} (h : w.heap[g]? = some o) (o1 : Obj) : (w.alloc o1).heap[g]? = some o := (Below.heap_alloc w o1 g (Array.getElem?_eq_some_iff.1 h).1).trans h
/-- A token's box. -/
def Box (W : World) (b : Nat) (x : Tok) : Prop := W.heap[b]? = some (.cells #[.int .u8 x.k, .string x.t, .int .i64 x.n, .int .i64 x.a] 34 (0, 0))
theorem box_kept {W W' : World} {row : Option Nat} {b : Nat} {x : Tok} (h : Box W b x) (hg : W.grownBy W' row) (hr : ∀ r, row = some r → ∃ o : Obj, W.heap[r]? = some o ∧ o.isCells = false) : Box W' b x := heap_kept hg hr h
theorem blk4t {w : World} {b : Nat} {x : Tok} (h : Box w b x) : w.cell? ⟨b, 0, none⟩ = some (.int .u8 x.k) ∧ w.cell? ⟨b, 1, none⟩ = some (.string x.t) ∧ w.cell? ⟨b, 2, none⟩ = some (.int .i64 x.n) ∧ w.cell? ⟨b, 3, none⟩ = some (.int .i64 x.a) := by
  unfold Box at h
  refine ⟨?_, ?_, ?_, ?_⟩ <;> simp [World.cell?, h]
theorem blk1c {w : World} {b : Nat} {v : Value} {t : TypeId} (h : w.heap[b]? = some (.cells #[v] t (0, 0))) : w.cell? ⟨b, 0, none⟩ = some v ∧ w.frozen? ⟨b, 0, none⟩ = false := by
  refine ⟨by simp [World.cell?, h], by simp [World.frozen?, h]⟩
theorem zip1 (T : Array Value) (p : Tmp) (v : Value) : Array.foldl (fun t (x : Tmp × Value) => match x with | (p, v) => t.setIfInBounds p v) T (#[p].zip #[v]) = T.setIfInBounds p v := by
  have e : (#[p].zip #[v]) = #[(p, v)] := by simp [Array.zip]
  rw [e]
  rfl
theorem toList_inj {s t : ByteArray} (h : s.toList = t.toList) : s = t := by
  rw [ByteArray.toList_eq, ByteArray.toList_eq] at h
  have h2 : s.data = t.data := Array.toList_inj.1 h
  cases s
  cases t
  simp_all
/-- Two tokens, held against each other. -/
def tokB (x y : Tok) : Bool := (x.k == y.k) && ((x.t.toList == y.t.toList) && ((x.n == y.n) && ((x.a : Int) == (y.a : Int))))
theorem tokB_iff {x y : Tok} : tokB x y = true ↔ x = y := by
  obtain ⟨k, t, n, a⟩ := x
  obtain ⟨k', t', n', a'⟩ := y
  unfold tokB
  simp only [Bool.and_eq_true, beq_iff_eq, Tok.mk.injEq]
  constructor
  · rintro ⟨h1, h2, h3, h4⟩; exact ⟨h1, toList_inj h2, h3, by omega⟩
  · rintro ⟨h1, h2, h3, h4⟩; exact ⟨h1, by rw [h2], h3, by omega⟩
theorem eqTokD (d : Nat) (w : World) (x y : Tok) :
    (Op.equalIn (d + 2) 34 (.agg #[.int .u8 x.k, .string x.t, .int .i64 x.n, .int .i64 x.a]) (.agg #[.int .u8 y.k, .string y.t, .int .i64 y.n, .int .i64 y.a])).run Try.prog w = .ok (tokB x y) w := by
  unfold tokB
  refine sq_struct Try.underlying34 (by kernel_rfl) ?_
  refine sq_more (by rfl) (by go_simp; rfl) (by go_simp; rfl) (by go_simp) ?_
  refine sq_more (by rfl) (by go_simp; rfl) (by go_simp; rfl) (by go_simp) ?_
  refine sq_more (by rfl) (by go_simp; rfl) (by go_simp; rfl) (by go_simp) ?_
  exact sq_one (by rfl) (by go_simp; rfl) (by go_simp; rfl) (by go_simp)
theorem pre_snoc {pre L : List Tok} {x : Tok} (hp : pre <+: L) (hlt : pre.length < L.length) : pre ++ [x] <+: L ↔ x = L[pre.length] := by
  obtain ⟨r, rfl⟩ := hp
  cases r with
  | nil => simp at hlt
  | cons y r =>
    simp only [List.getElem_append_right (Nat.le_refl _), Nat.sub_self, List.getElem_cons_zero]
    constructor
    · intro h
      have := List.prefix_append_right_inj pre |>.1 h
      simpa using this
    · rintro rfl
      exact ⟨r, by simp⟩
/-- Three cells of a list that is read, for one token. -/
theorem TokRd.at {w : World} {v : Value} {L : List Tok} (h : TokRd w v L) {i : Nat} (hi : i < L.length) : ∃ g c, v = .slice (some ⟨g, 0, none⟩) L.length c ∧ g < w.heap.size ∧ w.cell? ⟨g, i * 4, none⟩ = some (.int .u8 L[i].k) ∧ w.cell? ⟨g, i * 4 + 1, none⟩ = some (.string L[i].t) ∧ w.cell? ⟨g, i * 4 + 2, none⟩ = some (.int .i64 L[i].n) ∧ w.cell? ⟨g, i * 4 + 3, none⟩ = some (.int .i64 L[i].a) := by
  obtain ⟨Ad, c, rfl, h⟩ := h
  have hLi : L[i]? = some L[i] := List.getElem?_eq_getElem hi
  obtain ⟨g, rfl, hg, a0⟩ := h (i * 4 + 0) _ ((tokCells_at L i _ hLi 0 (by omega)).trans rfl)
  obtain ⟨q1, e2, -, a1⟩ := h (i * 4 + 1) _ ((tokCells_at L i _ hLi 1 (by omega)).trans rfl)
  obtain ⟨q2, e3, -, a2⟩ := h (i * 4 + 2) _ ((tokCells_at L i _ hLi 2 (by omega)).trans rfl)
  obtain ⟨q3, e4, -, a3⟩ := h (i * 4 + 3) _ ((tokCells_at L i _ hLi 3 (by omega)).trans rfl)
  simp only [Option.some.injEq, Addr.mk.injEq, and_true] at e2 e3 e4
  subst e2 e3 e4
  exact ⟨g, c, rfl, hg, a0, a1, a2, a3⟩
/-- A counter's box, and what a range has told so far. -/
def Cnt (W3 : World) (Bq : Nat) (L : List Tok) (pre : List Tok) (W : World) : Prop := (Upd (fun b => b = Bq) W3 W ∧ W.heap[Bq]? = some (.cells #[.int .i64 pre.length] 3 (0, 0))) ∧ pre <+: L
theorem cnt_own {W3 : World} {Bq C : Nat} {L : List Tok} (h : W3.heap.size ≤ C) : OwnFrom C (Cnt W3 Bq L) :=
  OwnFrom.and (OwnFrom.and (ownFrom_upd h) (fun pre X Y row h hg hr => heap_kept hg (fun r e => (hr r e).2) h)) (ownFrom_pure _ _)
theorem Cnt.next {W3 W : World} {Bq : Nat} {L pre : List Tok} {x : Tok} {z : Int} (h : Cnt W3 Bq L pre W) (hx : pre ++ [x] <+: L) (hz : z = (pre.length : Int) + 1) : Cnt W3 Bq L (pre ++ [x]) (W.setCell ⟨Bq, 0, none⟩ (.int .i64 z)) := by
  refine ⟨⟨h.1.1.set rfl _, ?_⟩, hx⟩
  have := heap_setCell_same W Bq 0 #[.int .i64 pre.length] 3 (.int .i64 z) h.1.2
  rw [this, hz]
  simp
section
variable {F : Fence} {n : Nat} {P : Program} {C : World → Prop} {ops : Array Oper} {md : Region.Mode}
theorem quietR_op {o : Oper} {a : Act} {K : Act → Prop} {K' : Act → World → Prop} {Q' : Exit → Act → World → Prop} {w : World} (hd : ∀ c, o.op ≠ .defer c) (hw : C w) (h : ∀ a w', C w' → K a → K' a w')
    (ha : o.askedIn F P a C) (hh : o.quietIn F n P a C K) : o.wpIn F n P a w K' Q' := by
  obtain ⟨v, h1, h2⟩ := hh
  have h3 := h1 w hw
  unfold Oper.quietAtIn at h3
  unfold Oper.wpIn
  refine ⟨ha w hw, ?_⟩
  rw [Oper.semAt_plain F _ _ hd]
  generalize (execOp a.eval o).run P w = r at *
  cases r with
  | ok x w' =>
    cases x <;> simp only [Oper.quietUponIn] at h3 <;> simp only [Oper.uponIn]
    case value u =>
      obtain ⟨e1, e2⟩ := h3
      rw [e1, e2]
      exact h _ _ hw h2
    case skip =>
      obtain ⟨e1, e2⟩ := h3
      rw [e1, ← e2]
      exact h _ _ hw h2
    case enter f args =>
      obtain ⟨e1, hd, hc⟩ := h3
      rw [e1]
      exact ⟨hd, hc.mono fun e w'' ⟨he, hw''⟩ => by subst he; exact h _ _ hw'' h2⟩
  | halt x w' => simp only [Oper.quietUponIn] at h3
theorem quietR_at {i : Nat} {a : Act} {K : Act → Prop} {K' : Act → World → Prop} {Q' : Exit → Act → World → Prop} {w : World} (hd : ∀ (i : Nat) (o : Oper), ops[i]? = some o → ∀ c, o.op ≠ .defer c) (hC : C w) (h : ∀ a w', C w' → K a → K' a w')
    (hh : qOpIn F n P ops C i K a) : wpOpIn F n P ops Q' i K' a w := by
  unfold qOpIn at hh
  unfold wpOpIn
  split
  · rename_i ho; simp only [ho] at hh; exact h _ _ hC hh
  · rename_i o ho
    simp only [ho] at hh
    obtain ⟨ha, hh⟩ := hh
    split
    · rename_i hw; simp only [hw, if_true] at hh; exact quietR_op (hd i o ho) hC h ha hh
    · rename_i hw; simp only [hw] at hh; exact ⟨ha w hC, h _ _ hC hh⟩
theorem quietR_any {Q : Act → Prop} {Q' : Exit → Act → World → Prop} (hd : ∀ (i : Nat) (o : Oper), ops[i]? = some o → ∀ c, o.op ≠ .defer c) (hQ : ∀ a w, C w → Q a → Q' .normal a w) : ∀ (fuel : Nat) (listed : Array Bool) (a : Act) (w : World), C w →
    wpAnyQIn F n P md ops C Q fuel listed a → wpAnyIn F n P md ops Q' fuel listed a w
  | 0, _, _, _, hw, h => ⟨h.1, hQ _ _ hw h.2⟩
  | fuel + 1, _, _, _, hw, h => ⟨fun h0 => hQ _ _ hw (h.1 h0), fun i hi => quietR_at hd hw (fun a' w' hw' => quietR_any hd hQ fuel _ a' w' hw') (h.2 i hi)⟩
def noDefer (l : List Oper) : Bool := l.all fun o => match o.op with | .defer _ => false | _ => true
theorem noDefer_at {l : List Oper} (h : noDefer l = true) (i : Nat) (o : Oper) (ho : l.toArray[i]? = some o) : ∀ c, o.op ≠ .defer c := by
  intro c e
  have hm : o ∈ l := by
    rw [List.getElem?_toArray] at ho
    exact List.mem_of_getElem? ho
  have := List.all_eq_true.1 h o hm
  rw [e] at this
  cases this
/-- A region that only reads, within a round. -/
theorem wpIn_quietR {id : Nat} {Q : Exit → Act → World → Prop} {a : Act} {w : World} {l : List Oper} (hm : P.follows .mixedOrders = true) (hB : Region.lexB .any l.toArray = true) (hd : noDefer l = true)
    (h : wpQuietIn F n P l.toArray (fun w' => ∃ n, w' = w.drewN n) (fun a' => ∀ w', (∃ n, w' = w.drewN n) → Q .normal a' w') l a) : (Code.region id l.toArray true).wpIn F n P Q a w := by
  simp only [Region.lexB, Bool.and_eq_true] at hB
  refine wpIn_region_any hm (quietR_any (C := fun w' => ∃ n, w' = w.drewN n) (Q := fun a' => ∀ w', (∃ n, w' = w.drewN n) → Q .normal a' w') (noDefer_at hd) (fun _ w' hw' h => h w' hw') _ _ _ _ ⟨1, rfl⟩ ?_)
  have := wpAnyQIn_lex (F := F) (n := n) (P := P) (C := fun w' => ∃ n, w' = w.drewN n) (md := .any) hB.1 l 0 (Array.replicate l.toArray.size false) a (by simp) (by simpa using hB.2) h
  simpa using this
end
/-- A range over All, outermost: the loop's variable is boxed. -/
theorem range_tokH {n : Nat} {g : Operand} {p b : Tmp} {assign body : Code} {Q : Exit → Act → World → Prop} {T : Array Value} {ds : List Deferred} {w : World} (hn : 2 ≤ n) {Bn : Nat} {s : ByteArray} (hg : (⟨T, ds⟩ : Act).eval g = .func (.func 28) #[] #[.pointer (some ⟨Bn, 0, none⟩)])
    (hs : Small s) (hBn : w.heap[Bn]? = some (.cells #[.string s] 9 (0, 0))) (I : List Tok → World → Prop) (Ix : Code → List Tok → World → Prop) (hI : OwnFrom w.heap.size I) (hIx : ∀ c, OwnFrom w.heap.size (Ix c)) (h0 : I [] w) (hIs : ∀ pre W, I pre W → w.heap.size ≤ W.heap.size)
    (hassign : ∀ (l : Nat) (x : Tok) (W : World) (K : Act → World → Prop), K { tmps := (T.setIfInBounds p (Tok.v x)).setIfInBounds b (.pointer (some ⟨W.heap.size, 0, none⟩)), defers := [] } (W.alloc (.cells #[.int .u8 x.k, .string x.t, .int .i64 x.n, .int .i64 x.a] 34)) →
      assign.wpIn (Fence.wide.inRound l) (n - 1 - 1) Try.prog (Exit.then K (fun _ _ _ => False)) { tmps := T.setIfInBounds p (Tok.v x), defers := [] } W)
    (hbody : ∀ (l : Nat) (pre : List Tok) (x : Tok) (Bx : Nat) (W : World), w.heap.size ≤ l → (∃ r, W.heap[l]? = some (.loop r)) → I pre W → w.heap.size ≤ Bx → Box W Bx x → pre.length < (allR s).length →
      body.wpIn (Fence.wide.inRound l) (n - 1 - 1) Try.prog (ownPostG w.heap.size KeepT I Ix (pre ++ [x]) W) { tmps := (T.setIfInBounds p (Tok.v x)).setIfInBounds b (.pointer (some ⟨Bx, 0, none⟩)), defers := [] } W)
    (hdone : ∀ (D : Nat) (W : World), w.heap.size ≤ D → I (allR s) W → W.heap[D]? = some (.deferred (some [])) → Q .normal { tmps := T, defers := { target := .collected D, args := #[] } :: ds } W)
    (hstop : ∀ (D : Nat) (c : Code) (pre : List Tok) (W : World), w.heap.size ≤ D → pre <+: allR s → Ix c pre W → W.heap[D]? = some (.deferred (some [])) → c.wpIn Fence.wide n Try.prog Q { tmps := T, defers := { target := .collected D, args := #[] } :: ds } W) :
    (Code.rangeFunc g #[p] assign body).wpIn Fence.wide n Try.prog Q { tmps := T, defers := ds } w := by
  refine wpIn_rangeFunc_ownH (a := { tmps := T, defers := ds }) rfl (by omega) (gf := 28) (lb := #[.pointer (some ⟨Bn, 0, none⟩)]) hg trivial (enters_of Try.func28 (by kernel_rfl) rfl) (all_stops s hs (n - 1) (by omega) Bn w hBn) KeepT.trans (KeepT.put (w := w)) (Below.refl _ _) (fun _ => rfl) I Ix hI hIx h0
    (fun x a' W => ∃ Bx, w.heap.size ≤ Bx ∧ Box W Bx x ∧ a' = { tmps := (T.setIfInBounds p (Tok.v x)).setIfInBounds b (.pointer (some ⟨Bx, 0, none⟩)), defers := [] })
    (fun x a' _ X Y row hs hg hr => by obtain ⟨Bx, h1, h2, h3⟩ := hs; exact ⟨Bx, h1, box_kept h2 hg (fun r e => (hr r e).2), h3⟩) ?_ ?_ (fun D xs W hD hx hi hK => hdone D W hD (hx ▸ hi) hK) hstop
  · intro l pre x W K hi hK
    rw [zip1]
    exact hassign l x W K (hK _ _ ((KeepsOthers.alloc _ _).from _) (KeepT.new ((Upd.refl (fun _ => False) W).alloc _)) (hI.alloc _ hi) ⟨W.heap.size, hIs pre W hi, heap_alloc_new W _, rfl⟩)
  · rintro l pre x a' W hl hr hi ⟨Bx, h1, h2, rfl⟩ hlt
    exact hbody l pre x Bx W hl hr hi h1 h2 hlt
/-- A range over All within the round of another. -/
theorem range_tokN {n : Nat} {g : Operand} {p b : Tmp} {assign body : Code} {Q : Exit → Act → World → Prop} {T : Array Value} {ds : List Deferred} {w : World} {l₀ : Nat} {r₀ : Loop} (hl₀ : w.heap[l₀]? = some (.loop r₀)) (hn : 2 ≤ n) {Bn : Nat} {s : ByteArray} (hg : (⟨T, ds⟩ : Act).eval g = .func (.func 28) #[] #[.pointer (some ⟨Bn, 0, none⟩)])
    (hs : Small s) (hBn : w.heap[Bn]? = some (.cells #[.string s] 9 (0, 0))) (I : List Tok → World → Prop) (Ix : Code → List Tok → World → Prop) (hI : OwnFrom w.heap.size I) (hIx : ∀ c, OwnFrom w.heap.size (Ix c)) (h0 : I [] w) (hIs : ∀ pre W, I pre W → w.heap.size ≤ W.heap.size)
    (hassign : ∀ (l : Nat) (x : Tok) (W : World) (K : Act → World → Prop), K { tmps := (T.setIfInBounds p (Tok.v x)).setIfInBounds b (.pointer (some ⟨W.heap.size, 0, none⟩)), defers := [] } (W.alloc (.cells #[.int .u8 x.k, .string x.t, .int .i64 x.n, .int .i64 x.a] 34)) →
      assign.wpIn ((Fence.wide.inRound l₀).inRound l) (n - 1 - 1) Try.prog (Exit.then K (fun _ _ _ => False)) { tmps := T.setIfInBounds p (Tok.v x), defers := [] } W)
    (hbody : ∀ (l : Nat) (pre : List Tok) (x : Tok) (Bx : Nat) (W : World), w.heap.size ≤ l → (∃ r, W.heap[l]? = some (.loop r)) → I pre W → w.heap.size ≤ Bx → Box W Bx x → pre.length < (allR s).length →
      body.wpIn ((Fence.wide.inRound l₀).inRound l) (n - 1 - 1) Try.prog (ownPostG w.heap.size KeepT I Ix (pre ++ [x]) W) { tmps := (T.setIfInBounds p (Tok.v x)).setIfInBounds b (.pointer (some ⟨Bx, 0, none⟩)), defers := [] } W)
    (hdone : ∀ (W : World), I (allR s) W → Q .normal { tmps := T, defers := ds } W)
    (hstop : ∀ (c : Code) (pre : List Tok) (W : World), pre <+: allR s → Ix c pre W → c.wpIn (Fence.wide.inRound l₀) n Try.prog Q { tmps := T, defers := ds } W) :
    (Code.rangeFunc g #[p] assign body).wpIn (Fence.wide.inRound l₀) n Try.prog Q { tmps := T, defers := ds } w := by
  refine wpIn_rangeFunc_ownN (l₀ := l₀) (r₀ := r₀) (a := { tmps := T, defers := ds }) rfl hl₀ (by omega) (gf := 28) (lb := #[.pointer (some ⟨Bn, 0, none⟩)]) hg trivial (enters_of Try.func28 (by kernel_rfl) rfl) ((all_stops s hs (n - 1) (by omega) Bn w hBn).inRound l₀) KeepT.trans (KeepT.put (w := w)) (Below.refl _ _) (fun _ => rfl) I Ix hI hIx h0
    (fun x a' W => ∃ Bx, w.heap.size ≤ Bx ∧ Box W Bx x ∧ a' = { tmps := (T.setIfInBounds p (Tok.v x)).setIfInBounds b (.pointer (some ⟨Bx, 0, none⟩)), defers := [] })
    (fun x a' _ X Y row hs hg hr => by obtain ⟨Bx, h1, h2, h3⟩ := hs; exact ⟨Bx, h1, box_kept h2 hg (fun r e => (hr r e).2), h3⟩) ?_ ?_ (fun xs W hx hi => hdone W (hx ▸ hi)) hstop
  · intro l pre x W K hi hK
    rw [zip1]
    exact hassign l x W K (hK _ _ ((KeepsOthers.alloc _ _).from _) (KeepT.new ((Upd.refl (fun _ => False) W).alloc _)) (hI.alloc _ hi) ⟨W.heap.size, hIs pre W hi, heap_alloc_new W _, rfl⟩)
  · rintro l pre x a' W hl hr hi ⟨Bx, h1, h2, rfl⟩ hlt
    exact hbody l pre x Bx W hl hr hi h1 h2 hlt
end Go.Proofs.Ytecoahdeafobkaa
