/- Rows of a book, each in memory of its own: how they are marked, and grow. -/
import Derived.Test.YtecoahdeafobkaaFx
import Derived.Maps.AppendAt
import Derived.OwnWalk
namespace Go.Proofs.Ytecoahdeafobkaa
open Go.RowKit
set_option linter.unusedVariables false
set_option linter.unusedSimpArgs false

namespace Bk
def Apart (u v : Value) : Prop := ∀ b, u.ownBlock = some b → v.ownBlock ≠ some b
theorem Apart.symm {u v : Value} (h : Apart u v) : Apart v u := fun b h1 h2 => h b h2 h1
theorem own_lt {w : World} {base : Nat} {e : TypeId} {size : Nat} {v : Value} {n : Nat} {xs : List Value} (h : w.ownsRow base e size v n xs) : ∀ k, v.ownBlock = some k → base ≤ k ∧ k < w.heap.size := by
  intro k hk
  rcases h.2 with ⟨rfl, _⟩ | ⟨g, cap, cur, rfl, hb, hg, _⟩
  · exact absurd hk (by simp [Value.ownBlock])
  · simp only [Value.ownBlock, Option.some.injEq] at hk
    subst hk
    exact ⟨hb, (Array.getElem?_eq_some_iff.1 hg).1⟩
theorem own_form {w : World} {base : Nat} {e : TypeId} {size : Nat} {v : Value} {n : Nat} {xs : List Value} (h : w.ownsRow base e size v n xs) : ∃ A c, v = .slice A n c := by
  rcases h.2 with ⟨rfl, rfl⟩ | ⟨g, cap, cur, rfl, _⟩
  · exact ⟨_, _, rfl⟩
  · exact ⟨_, _, rfl⟩
theorem own_some {w : World} {base size n : Nat} {e : TypeId} {v : Value} {xs : List Value} (h : w.ownsRow base e size v n xs) (hn : 0 < n) : ∃ g cap, v = .slice (some ⟨g, 0, none⟩) n cap := by
  rcases h.2 with ⟨_, h0⟩ | ⟨g, cap, cur, rfl, _⟩
  · omega
  · exact ⟨g, cap, rfl⟩
theorem own_at {w : World} {base : Nat} {e : TypeId} {size : Nat} {g cap n m : Nat} {xs : List Value} (h : w.ownsRow base e size (.slice (some ⟨g, 0, none⟩) m cap) n xs) (j : Nat) (u : Value) (hj : xs[j]? = some u) : w.cell? ⟨g, j, none⟩ = some u ∧ w.frozen? ⟨g, j, none⟩ = false := by
  rcases h.2 with ⟨h0, _⟩ | ⟨g', cap', cur, hv, hb, hg, _, _, _, ht⟩
  · exact absurd h0 (by simp)
  · simp only [Value.slice.injEq, Option.some.injEq, Addr.mk.injEq, and_true] at hv
    obtain ⟨rfl, _⟩ := hv
    rw [← ht, List.getElem?_take] at hj
    split at hj
    · rw [Array.getElem?_toList] at hj
      refine ⟨by simp [World.cell?, hg, hj], by simp [World.frozen?, hg]⟩
    · exact absurd hj (by simp)
theorem own_put {w : World} {base : Nat} {e : TypeId} {size g n cap : Nat} {xs : List Value} (h : w.ownsRow base e size (.slice (some ⟨g, 0, none⟩) n cap) n xs) (j : Nat) (u : Value) :
    (w.setCell ⟨g, j, none⟩ u).ownsRow base e size (.slice (some ⟨g, 0, none⟩) n cap) n (xs.set j u) := by
  obtain ⟨hl, h⟩ := h
  rcases h with ⟨h0, _⟩ | ⟨g', cap', cur, hv, hb, hg, hn, hc, hs, ht⟩
  · exact absurd h0 (by simp)
  · simp only [Value.slice.injEq, Option.some.injEq, Addr.mk.injEq] at hv
    obtain ⟨⟨rfl, _⟩, -, rfl⟩ := hv
    refine ⟨by simpa using hl, .inr ⟨g, cap, cur.setIfInBounds j u, rfl, hb, heap_setCell_same w g j cur e u hg, hn, hc, by simpa using hs, ?_⟩⟩
    rw [Array.toList_setIfInBounds, List.take_set, ht]
/-- What lay below B0 lies as it lay; and so does whatever is no cells. -/
structure UpdC (B0 : Nat) (w w' : World) : Prop where
  upd : Upd (fun b => B0 ≤ b) w w'
  rest : ∀ (b : Nat) (o : Obj), w.heap[b]? = some o → (∀ c t f, o ≠ .cells c t f) → w'.heap[b]? = some o
theorem UpdC.of {B0 : Nat} {F : Nat → Prop} {w w' : World} (h : Upd F w w') (hF : ∀ b, F b → B0 ≤ b ∧ ∀ o, w.heap[b]? = some o → ∃ c t f, o = .cells c t f) : UpdC B0 w w' :=
  ⟨h.mono (fun b _ hb => (hF b hb).1), fun b o ho hc => h.heap ho (fun hb => by obtain ⟨c, t, f, e⟩ := (hF b hb).2 o ho; exact hc c t f e)⟩
theorem UpdC.refl (B0 : Nat) (w : World) : UpdC B0 w w := ⟨Upd.refl _ w, fun _ _ h _ => h⟩
theorem UpdC.trans {B0 : Nat} {a b c : World} (h : UpdC B0 a b) (k : UpdC B0 b c) : UpdC B0 a c := ⟨h.upd.trans k.upd, fun i o hi ho => k.rest i o (h.rest i o hi ho) ho⟩
theorem UpdC.new {B0 : Nat} {a b : World} (h : Upd (fun _ => False) a b) : UpdC B0 a b := .of h (fun _ x => x.elim)
theorem UpdC.alloc {B0 : Nat} {a b : World} (h : UpdC B0 a b) (o : Obj) : UpdC B0 a (b.alloc o) := h.trans (.new ((Upd.refl _ b).alloc o))
theorem own_isCells {w : World} {base : Nat} {e : TypeId} {size : Nat} {v : Value} {n : Nat} {xs : List Value} (h : w.ownsRow base e size v n xs) {b : Nat} (hb : v.ownBlock = some b) : base ≤ b ∧ ∀ o, w.heap[b]? = some o → ∃ c t f, o = .cells c t f := by
  rcases h.2 with ⟨rfl, _⟩ | ⟨g, cap, cur, rfl, hbb, hg, _⟩
  · simp [Value.ownBlock] at hb
  · simp only [Value.ownBlock, Option.some.injEq] at hb
    subst hb
    exact ⟨hbb, fun o ho => by rw [hg] at ho; injection ho with ho; exact ⟨_, _, _, ho.symm⟩⟩
/-- Append to a row of one's own: in place, or in new memory. -/
def Grew (w w' : World) (v v' : Value) : Prop := (v'.ownBlock = v.ownBlock ∧ w.grownBy w' v.ownBlock) ∨ (v'.ownBlock = some w.heap.size ∧ w.grownBy w' none)
section
variable {P : Program} (w : World)
theorem run_append2 (base : Nat) (t ty e : TypeId) (i : TypeInfo) (z : Value) (size bytes : Nat) (ht : P.underlying t = some (.slice e)) (hi : P.info? e = some i) (hz : i.zero = some z)
    (hsize : i.size = size) (hby : i.bytes = bytes) (hzs : z.cells.size = size) (hsz : 0 < size)
    (v : Value) (n : Nat) (xs : List Value) (hown : w.ownsRow base e size v n xs) (g : Nat) (m c : Nat) (news : List Value) (hm : 0 < m) (hl : news.length = m * size) (hnews : ∀ j u, news[j]? = some u → w.cell? ((⟨g, 0, none⟩ : Addr).add j) = some u) (h1 : ∀ u ∈ news, u.oneCell' = true)
    (h63 : n + m ≤ maxLen) (hbytes : (n + m) * bytes ≤ 140737488355328) (hbase : base ≤ w.heap.size) :
    ∃ v' w', (Builtin.append_ #[t, t] ty #[v, .slice (some ⟨g, 0, none⟩) m c]).run P w = .ok v' w' ∧ w'.ownsRow base e size v' (n + m) (xs ++ news) ∧ Grew w w' v v' := by
  obtain ⟨v', w', hr, h2, h3, _, h5⟩ := run_append_own_at (P := P) w base t ty e i z size bytes ht hi hz hsize hby hzs hsz v n xs hown ⟨g, 0, none⟩ m c news hl hnews h1 h63 hbytes hbase
  refine ⟨v', w', hr, h2, ?_⟩
  rcases hown.2 with ⟨rfl, rfl⟩ | ⟨q, cap, cur, rfl, hbg, hg, hnc, hcm, hcs, htake⟩
  · rcases h5 with h5 | h5
    · rcases h2.2 with ⟨_, h0⟩ | ⟨q2, cap2, cur2, rfl, _⟩
      · omega
      · simp [Value.ownBlock] at h5
    · exact .inr ⟨h5, h3⟩
  · by_cases hroom : n + m ≤ cap
    · have hfit : n * i.size + news.length ≤ cur.size := by rw [hl, hcs, hsize, ← Nat.add_mul]; exact Nat.mul_le_mul_right _ hroom
      have hr2 := run_append_room (P := P) w t ty e i ht hi q n cap cur hg ⟨g, 0, none⟩ m c news (by rw [hsize]; exact hl) hnews h1 hroom hfit
      rw [hr] at hr2
      injection hr2 with e1 e2
      subst e1
      exact .inl ⟨rfl, h3⟩
    · have hsmall : n + m ≤ 9223372036854775807 := by simp only [maxLen] at h63; omega
      have holds : ∀ j u, xs[j]? = some u → w.cell? ((⟨q, 0, none⟩ : Addr).add j) = some u := hown.cells (g := q) rfl
      have hr2 := run_append_grow (P := P) w t ty e i z ht hi hz ⟨q, 0, none⟩ n cap xs (by rw [hsize]; exact hown.1) holds ⟨g, 0, none⟩ m c news (by rw [hsize]; exact hl) hnews (by omega) (by omega) (growslice_fits (by omega) (by rw [hby]; exact hbytes))
      rw [hr] at hr2
      injection hr2 with e1 e2
      subst e1 e2
      exact .inr ⟨rfl, ⟨rfl, rfl, rfl, by simp, fun k hk _ => Below.heap_alloc w.drew _ k hk⟩⟩
theorem wpList_append2 {ops : Array Oper} {rest : List Oper} {o : Oper} {a : Act} {Q : Exit → Act → World → Prop} (hgd : o.guard = none) (s x : Operand) (t : TypeId)
    (ho : o.op = .call { callee := .builtin .append, args := #[s, x], argTypes := #[t, t] })
    (base : Nat) (e : TypeId) (i : TypeInfo) (z : Value) (size bytes : Nat) (ht : P.underlying t = some (.slice e)) (hi : P.info? e = some i) (hz : i.zero = some z)
    (hsize : i.size = size) (hby : i.bytes = bytes) (hzs : z.cells.size = size) (hsz : 0 < size)
    (v : Value) (n : Nat) (xs : List Value) (hs : a.eval s = v) (hown : w.ownsRow base e size v n xs) (g m c : Nat) (news : List Value) (hx : a.eval x = .slice (some ⟨g, 0, none⟩) m c) (hm : 0 < m) (hl : news.length = m * size) (hnews : ∀ j u, news[j]? = some u → w.cell? ((⟨g, 0, none⟩ : Addr).add j) = some u) (h1 : ∀ u ∈ news, u.oneCell' = true)
    (h63 : n + m ≤ maxLen) (hbytes : (n + m) * bytes ≤ 140737488355328) (hbase : base ≤ w.heap.size)
    (h : ∀ v' w', w'.ownsRow base e size v' (n + m) (xs ++ news) → Grew w w' v v' → wpList P ops Q rest (a.put o.dst v') w') : wpList P ops Q (o :: rest) a w := by
  refine wpList_plain hgd fun _ hK => ?_
  obtain ⟨v', w', hrun, h2, h3⟩ := run_append2 (P := P) w base t o.type e i z size bytes ht hi hz hsize hby hzs hsz v n xs hown g m c news hm hl hnews h1 h63 hbytes hbase
  unfold Oper.wp execOp
  simp only [ho, resolve, invoke, builtin, Sem.run_bind, Sem.run_pure, Result.andThen_ok, List.map_toArray, List.map_cons, List.map_nil, hs, hx, hrun]
  exact hK _ _ (h v' w' h2 h3)
end
theorem Grew.upd {w w' : World} {v v' : Value} (h : Grew w w' v v') : Upd (fun b => v.ownBlock = some b ∧ v'.ownBlock = some b) w w' := by
  rcases h with ⟨h1, h2⟩ | ⟨h1, h2⟩
  · exact (Upd.refl _ w).grown h2 (fun b hb _ => ⟨hb, h1.trans hb⟩)
  · exact (Upd.refl _ w).grown h2 (fun b hb _ => by cases hb)
/-- What a slice holds. -/
def Holds (w : World) (v : Value) (xs : List Value) : Prop := ∀ g n c, v = .slice (some ⟨g, 0, none⟩) n c → ∀ (o : Nat) u, xs[o]? = some u → w.cell? ⟨g, o, none⟩ = some u
theorem Holds.of_own {w : World} {base : Nat} {e : TypeId} {size : Nat} {v : Value} {n : Nat} {xs : List Value} (h : w.ownsRow base e size v n xs) : Holds w v xs := by
  intro g m c hv o u hu
  subst hv
  exact (own_at h o u hu).1
theorem Holds.upd {F : Nat → Prop} {w w' : World} {v : Value} {xs : List Value} (h : Holds w v xs) (hu : Upd F w w') (hF : ∀ b, v.ownBlock = some b → ¬ F b) : Holds w' v xs := by
  intro g n c hv o u ho
  exact hu.cell (h g n c hv o u ho) (hF g (by rw [hv]; rfl))
/-- Rows of a book. -/
structure Rows (w : World) (B0 : Nat) (e : TypeId) (K G m : Nat) (vs : Nat → Value) (ns : Nat → Nat) (xs : Nat → List Value) : Prop where
  row : ∀ j, j < m → w.cell? ⟨G, j, none⟩ = some (vs j)
  own : ∀ j, j < m → w.ownsRow B0 e K (vs j) (ns j) (xs j)
  apart : ∀ i j, i < m → j < m → i ≠ j → Apart (vs i) (vs j)
  noG : ∀ j, j < m → (vs j).ownBlock ≠ some G
def setX (xs : Nat → List Value) (i o : Nat) (u : Value) : Nat → List Value := fun j => if j = i then (xs i).set o u else xs j
theorem Rows.put {w : World} {B0 : Nat} {e : TypeId} {K G m : Nat} {vs : Nat → Value} {ns : Nat → Nat} {xs : Nat → List Value} (h : Rows w B0 e K G m vs ns xs) (i : Nat) (hi : i < m) {g c : Nat} (hv : vs i = .slice (some ⟨g, 0, none⟩) (ns i) c) (o : Nat) (u : Value) :
    Rows (w.setCell ⟨g, o, none⟩ u) B0 e K G m vs ns (setX xs i o u) ∧ UpdC B0 w (w.setCell ⟨g, o, none⟩ u) := by
  have hu : Upd (fun b => b = g) w (w.setCell ⟨g, o, none⟩ u) := (Upd.refl (fun b => b = g) w).set rfl _
  have hg : (vs i).ownBlock = some g := by rw [hv]; rfl
  have hlt := own_lt (h.own i hi) g hg
  refine ⟨⟨fun j hj => hu.cell (h.row j hj) (fun e => h.noG i hi (by rw [hg]; exact congrArg some (Eq.symm e))), fun j hj => ?_, h.apart, h.noG⟩, .of hu (fun b hb => by subst hb; exact own_isCells (h.own i hi) hg)⟩
  by_cases hji : j = i
  · subst hji
    have h1 := h.own j hj
    rw [hv] at h1 ⊢
    rw [show setX xs j o u j = (xs j).set o u by simp [setX]]
    exact own_put h1 o u
  · rw [show setX xs i o u j = xs j by simp [setX, hji]]
    exact hu.ownsRow (h.own j hj) (fun b hb e => h.apart i j hi hj (Ne.symm hji) g hg (e ▸ hb))
/-- While the rows grow, one behind the other: x is the one at hand, of k more. -/
structure Grow (w : World) (B0 : Nat) (e eS : TypeId) (K G m : Nat) (vs : Nat → Value) (ns : Nat → Nat) (A : Nat → List Value) (Bm : Nat → Nat → List Value) (i : Nat) (long : Value) (ws : Nat → Value) : Prop where
  row : ∀ j, j < m → w.cell? ⟨G, j, none⟩ = some (vs j)
  own : ∀ j, i < j → j < m → w.ownsRow B0 e K (vs j) (ns j) (A j)
  hold : ∀ j, j < m → Holds w (vs j) (A j)
  lon : ∀ j, j < i → w.ownsRow B0 e K (ws j) (ns j + 16) (A j ++ Bm j 16)
  lo : w.ownsRow B0 eS 1 long i ((List.range i).map ws)
  apart : ∀ i j, i < m → j < m → i ≠ j → Apart (vs i) (vs j)
  noG : ∀ j, j < m → (vs j).ownBlock ≠ some G
  wv : ∀ j k, j < i → k < m → j ≠ k → Apart (ws j) (vs k)
  ww : ∀ j k, j < i → k < i → j ≠ k → Apart (ws j) (ws k)
  wG : ∀ j, j < i → (ws j).ownBlock ≠ some G
  lG : long.ownBlock ≠ some G
  lv : ∀ j, j < m → Apart long (vs j)
  lw : ∀ j, j < i → Apart long (ws j)
  vlt : ∀ j, j < m → ∀ b, (vs j).ownBlock = some b → B0 ≤ b ∧ b < w.heap.size
  Glt : B0 ≤ G ∧ G < w.heap.size
structure At (w : World) (B0 : Nat) (e : TypeId) (K G m : Nat) (vs : Nat → Value) (ns : Nat → Nat) (A : Nat → List Value) (Bm : Nat → Nat → List Value) (i k : Nat) (x long : Value) (ws : Nat → Value) : Prop where
  xo : w.ownsRow B0 e K x (ns i + k) (A i ++ Bm i k)
  xv : ∀ j, j < m → j ≠ i → Apart x (vs j)
  xw : ∀ j, j < i → Apart x (ws j)
  xG : x.ownBlock ≠ some G
  xl : Apart x long
  xi : x.ownBlock = (vs i).ownBlock ∨ Apart x (vs i)
section
variable {w w1 w' : World} {B0 : Nat} {e eS : TypeId} {K G m : Nat} {vs : Nat → Value} {ns : Nat → Nat} {A : Nat → List Value} {Bm : Nat → Nat → List Value} {i k : Nat} {x x' long : Value} {ws : Nat → Value}
theorem Grow.upd {F : Nat → Prop} (h : Grow w B0 e eS K G m vs ns A Bm i long ws) (hu : Upd F w w') (hG : ¬ F G) (hv : ∀ j, j < m → ∀ b, (vs j).ownBlock = some b → ¬ F b) (hw : ∀ j, j < i → ∀ b, (ws j).ownBlock = some b → ¬ F b) (hl : ∀ b, long.ownBlock = some b → ¬ F b) : Grow w' B0 e eS K G m vs ns A Bm i long ws :=
  ⟨fun j hj => hu.cell (h.row j hj) hG, fun j h1 h2 => hu.ownsRow (h.own j h1 h2) (hv j h2), fun j hj => (h.hold j hj).upd hu (hv j hj), fun j hj => hu.ownsRow (h.lon j hj) (hw j hj), hu.ownsRow h.lo hl, h.apart, h.noG, h.wv, h.ww, h.wG, h.lG, h.lv, h.lw,
    fun j hj b hb => ⟨(h.vlt j hj b hb).1, Nat.lt_of_lt_of_le (h.vlt j hj b hb).2 hu.size⟩, ⟨h.Glt.1, Nat.lt_of_lt_of_le h.Glt.2 hu.size⟩⟩
theorem Grow.new (h : Grow w B0 e eS K G m vs ns A Bm i long ws) (hu : Upd (fun _ => False) w w') : Grow w' B0 e eS K G m vs ns A Bm i long ws :=
  h.upd hu (fun x => x) (fun _ _ _ _ x => x) (fun _ _ _ _ x => x) (fun _ _ x => x)
theorem At.new (h : At w B0 e K G m vs ns A Bm i k x long ws) (hu : Upd (fun _ => False) w w') : At w' B0 e K G m vs ns A Bm i k x long ws :=
  ⟨hu.ownsRow h.xo (fun _ _ x => x), h.xv, h.xw, h.xG, h.xl, h.xi⟩
theorem At.step (hg : Grow w B0 e eS K G m vs ns A Bm i long ws) (h : At w B0 e K G m vs ns A Bm i k x long ws) (hi : i < m) {more : List Value} (ho : w'.ownsRow B0 e K x' (ns i + k + 1) ((A i ++ Bm i k) ++ more)) (hm : Bm i (k + 1) = Bm i k ++ more) (hgr : Grew w w' x x') :
    Grow w' B0 e eS K G m vs ns A Bm i long ws ∧ At w' B0 e K G m vs ns A Bm i (k + 1) x' long ws ∧ UpdC B0 w w' := by
  have hu := hgr.upd
  have hxlt := own_lt h.xo
  have hfresh : ∀ v : Value, (∀ b, v.ownBlock = some b → b < w.heap.size) → Apart x v → Apart x' v := by
    intro v hv ha b hb hb2
    rcases hgr with ⟨e1, _⟩ | ⟨e1, _⟩
    · exact ha b (e1 ▸ hb) hb2
    · have := hv b hb2
      rw [e1] at hb
      simp only [Option.some.injEq] at hb
      omega
  have hG : x'.ownBlock ≠ some G := fun e2 => by
    rcases hgr with ⟨e1, _⟩ | ⟨e1, _⟩
    · exact h.xG (e1 ▸ e2)
    · rw [e1] at e2; simp only [Option.some.injEq] at e2; have := hg.Glt.2; omega
  have hwlt : ∀ j, j < i → ∀ b, (ws j).ownBlock = some b → b < w.heap.size := fun j hj b hb => (own_lt (hg.lon j hj) b hb).2
  have hllt : ∀ b, long.ownBlock = some b → b < w.heap.size := fun b hb => (own_lt hg.lo b hb).2
  refine ⟨⟨fun j hj => hu.cell (hg.row j hj) (fun e => h.xG e.1), fun j h1 h2 => hu.ownsRow (hg.own j h1 h2) (fun b hb e => h.xv j h2 (by omega) b e.1 hb), fun j hj => ?_, fun j hj => hu.ownsRow (hg.lon j hj) (fun b hb e => h.xw j hj b e.1 hb), hu.ownsRow hg.lo (fun b hb e => h.xl b e.1 hb), hg.apart, hg.noG, hg.wv, hg.ww, hg.wG, hg.lG, hg.lv, hg.lw,
    fun j hj b hb => ⟨(hg.vlt j hj b hb).1, Nat.lt_of_lt_of_le (hg.vlt j hj b hb).2 hu.size⟩, ⟨hg.Glt.1, Nat.lt_of_lt_of_le hg.Glt.2 hu.size⟩⟩, ⟨?_, fun j hj hne => hfresh _ (fun b hb => (hg.vlt j hj b hb).2) (h.xv j hj hne), fun j hj => hfresh _ (hwlt j hj) (h.xw j hj), hG, hfresh _ hllt h.xl, ?_⟩, .of hu (fun b hb => own_isCells h.xo hb.1)⟩
  · by_cases hji : j = i
    · subst hji
      rcases h.xi with hx | hx
      · intro g n c hv o u hou
        have hgb : (vs j).ownBlock = some g := by rw [hv]; rfl
        rcases hgr with ⟨e1, _⟩ | ⟨e1, _⟩
        · have hx' : x'.ownBlock = some g := by rw [e1, hx, hgb]
          obtain ⟨B, c', hx2⟩ := own_form ho
          have hol : o < (A j).length := (List.getElem?_eq_some_iff.1 hou).1
          have hlen := ho.1
          obtain ⟨q, cap, hx3⟩ := own_some ho (by omega)
          rw [hx3] at hx' ho
          simp only [Value.ownBlock, Option.some.injEq] at hx'
          subst hx'
          exact (own_at ho o u (by rw [List.append_assoc, List.getElem?_append_left hol]; exact hou)).1
        · exact hu.cell (hg.hold j hj g n c hv o u hou) (fun e => by rw [e1] at e; have e2 := e.2; simp only [Option.some.injEq] at e2; have := (hg.vlt j hj g hgb).2; have e3 : w.heap.size = g := e2; omega)
      · exact (hg.hold j hj).upd hu (fun b hb e => hx b e.1 hb)
    · exact (hg.hold j hj).upd hu (fun b hb e => h.xv j hj hji b e.1 hb)
  · rw [hm, ← List.append_assoc]; exact ho
  · rcases hgr with ⟨e1, _⟩ | ⟨e1, _⟩
    · rcases h.xi with hx | hx
      · exact .inl (e1.trans hx)
      · exact .inr (fun b hb => hx b (e1 ▸ hb))
    · refine .inr (fun b hb hb2 => ?_)
      have := (hg.vlt i hi b hb2).2
      rw [e1] at hb
      simp only [Option.some.injEq] at hb
      omega
/-- At a row's head: all rows from it on are as they were. -/
structure Head (w : World) (B0 : Nat) (e eS : TypeId) (K G m : Nat) (vs : Nat → Value) (ns : Nat → Nat) (A : Nat → List Value) (Bm : Nat → Nat → List Value) (i : Nat) (long : Value) (ws : Nat → Value) : Prop where
  gr : Grow w B0 e eS K G m vs ns A Bm i long ws
  at_ : i < m → w.ownsRow B0 e K (vs i) (ns i) (A i)
theorem Head.start (h : Rows w B0 e K G m vs ns A) (hG : B0 ≤ G ∧ G < w.heap.size) : Head w B0 e eS K G m vs ns A Bm 0 (.slice none 0 0) ws :=
  ⟨⟨h.row, fun j _ h2 => h.own j h2, fun j hj => Holds.of_own (h.own j hj), fun j hj => absurd hj (by omega), ⟨rfl, .inl ⟨rfl, rfl⟩⟩, h.apart, h.noG, fun j _ hj => absurd hj (by omega), fun j _ hj => absurd hj (by omega), fun j hj => absurd hj (by omega), (by simp [Value.ownBlock]), (fun j _ b hb => by simp [Value.ownBlock] at hb), fun j hj => absurd hj (by omega), fun j hj b hb => own_lt (h.own j hj) b hb, hG⟩, fun hi => h.own 0 hi⟩
theorem Head.at0 (h : Head w B0 e eS K G m vs ns A Bm i long ws) (hi : i < m) (hB : Bm i 0 = []) : At w B0 e K G m vs ns A Bm i 0 (vs i) long ws :=
  ⟨by rw [hB, List.append_nil]; exact h.at_ hi, fun j hj hne => h.gr.apart i j hi hj (Ne.symm hne), fun j hj => (h.gr.wv j i hj hi (by omega)).symm, h.gr.noG i hi, (h.gr.lv i hi).symm, .inl rfl⟩
def setW (ws : Nat → Value) (i : Nat) (x : Value) : Nat → Value := fun j => if j = i then x else ws j
theorem setW_same (ws : Nat → Value) (i : Nat) (x : Value) : setW ws i x i = x := by simp [setW]
theorem setW_lt (ws : Nat → Value) (i j : Nat) (x : Value) (h : j < i) : setW ws i x j = ws j := by unfold setW; rw [if_neg (by omega)]
theorem range_setW (ws : Nat → Value) (i : Nat) (x : Value) : (List.range (i + 1)).map (setW ws i x) = (List.range i).map ws ++ [x] := by
  rw [List.range_succ, List.map_append]
  congr 1
  · apply List.map_congr_left
    intro j hj
    exact setW_lt ws i j x (List.mem_range.1 hj)
  · simp [setW_same]
theorem Head.next (hg : Grow w B0 e eS K G m vs ns A Bm i long ws) (h : At w B0 e K G m vs ns A Bm i 16 x long ws) (hi : i < m) {long' : Value} (ho : w'.ownsRow B0 eS 1 long' (i + 1) ((List.range i).map ws ++ [x])) (hgr : Grew w w' long long') :
    Head w' B0 e eS K G m vs ns A Bm (i + 1) long' (setW ws i x) ∧ UpdC B0 w w' := by
  have hu := hgr.upd
  have hllt := own_lt hg.lo
  have hxlt := own_lt h.xo
  have hfresh : ∀ v : Value, (∀ b, v.ownBlock = some b → b < w.heap.size) → Apart long v → Apart long' v := by
    intro v hv ha b hb hb2
    rcases hgr with ⟨e1, _⟩ | ⟨e1, _⟩
    · exact ha b (e1 ▸ hb) hb2
    · have := hv b hb2
      rw [e1] at hb
      simp only [Option.some.injEq] at hb
      omega
  have hlG : long'.ownBlock ≠ some G := fun e2 => by
    rcases hgr with ⟨e1, _⟩ | ⟨e1, _⟩
    · exact hg.lG (e1 ▸ e2)
    · rw [e1] at e2; simp only [Option.some.injEq] at e2; have := hg.Glt.2; omega
  have hwlt : ∀ j, j < i → ∀ b, (ws j).ownBlock = some b → b < w.heap.size := fun j hj b hb => (own_lt (hg.lon j hj) b hb).2
  refine ⟨⟨⟨fun j hj => hu.cell (hg.row j hj) (fun e => hg.lG e.1), fun j h1 h2 => hu.ownsRow (hg.own j (by omega) h2) (fun b hb e => hg.lv j h2 b e.1 hb), fun j hj => (hg.hold j hj).upd hu (fun b hb e => hg.lv j hj b e.1 hb), fun j hj => ?_, by rw [range_setW]; exact ho, hg.apart, hg.noG, fun j q hj hq hne => ?_, fun j q hj hq hne => ?_, fun j hj => ?_, hlG, fun j hj => hfresh _ (fun b hb => (hg.vlt j hj b hb).2) (hg.lv j hj), fun j hj => ?_,
    fun j hj b hb => ⟨(hg.vlt j hj b hb).1, Nat.lt_of_lt_of_le (hg.vlt j hj b hb).2 hu.size⟩, ⟨hg.Glt.1, Nat.lt_of_lt_of_le hg.Glt.2 hu.size⟩⟩, fun hi2 => hu.ownsRow (hg.own (i + 1) (by omega) hi2) (fun b hb e => hg.lv (i + 1) hi2 b e.1 hb)⟩, .of hu (fun b hb => own_isCells hg.lo hb.1)⟩
  · by_cases hji : j = i
    · subst hji; rw [setW_same]; exact hu.ownsRow h.xo (fun b hb e => h.xl b hb e.1)
    · rw [setW_lt ws i j x (by omega)]; exact hu.ownsRow (hg.lon j (by omega)) (fun b hb e => hg.lw j (by omega) b e.1 hb)
  · by_cases hji : j = i
    · subst hji; rw [setW_same]; exact h.xv q hq (Ne.symm hne)
    · rw [setW_lt ws i j x (by omega)]; exact hg.wv j q (by omega) hq hne
  · by_cases hji : j = i
    · subst hji
      rw [setW_same, setW_lt ws j q x (by omega)]
      exact h.xw q (by omega)
    · rw [setW_lt ws i j x (by omega)]
      by_cases hqi : q = i
      · subst hqi; rw [setW_same]; exact (h.xw j (by omega)).symm
      · rw [setW_lt ws i q x (by omega)]; exact hg.ww j q (by omega) (by omega) hne
  · by_cases hji : j = i
    · subst hji; rw [setW_same]; exact h.xG
    · rw [setW_lt ws i j x (by omega)]; exact hg.wG j (by omega)
  · by_cases hji : j = i
    · subst hji; rw [setW_same]; exact hfresh _ (fun b hb => (hxlt b hb).2) h.xl.symm
    · rw [setW_lt ws i j x (by omega)]; exact hfresh _ (hwlt j (by omega)) (hg.lw j (by omega))
end
end Bk
end Go.Proofs.Ytecoahdeafobkaa
