/- Read: the state of Read's loop. -/
import Derived.Test.YtnnjhafjcdjobaaRdK
namespace Go.Proofs.Ytnnjhafjcdjobaa
open Go.RowKit
set_option linter.unusedVariables false
set_option linter.unusedSimpArgs false

theorem own_put {w : World} {base : Nat} {e : TypeId} {size g n cap : Nat} {xs : List Value} (h : w.ownsRow base e size (.slice (some ⟨g, 0, none⟩) n cap) n xs) (j : Nat) (u : Value) :
    (w.setCell ⟨g, j, none⟩ u).ownsRow base e size (.slice (some ⟨g, 0, none⟩) n cap) n (xs.set j u) := by
  obtain ⟨hl, h⟩ := h
  rcases h with ⟨h0, _⟩ | ⟨g', cap', cur, hv, hb, hg, hn, hc, hs, ht⟩
  · exact absurd h0 (by simp)
  · simp only [Value.slice.injEq, Option.some.injEq, Addr.mk.injEq] at hv
    obtain ⟨⟨rfl, _⟩, -, rfl⟩ := hv
    refine ⟨by simpa using hl, .inr ⟨g, cap, cur.setIfInBounds j u, rfl, hb, bset hg j u, hn, hc, by simpa using hs, ?_⟩⟩
    rw [Array.toList_setIfInBounds, List.take_set, ht]

/-- The heap of Read while it works; es: what is read, v: the row at hand, kv: the datum at hand. -/
structure Mid (L : List Tok) (w0 : World) (pb tg tc B0 B1 B2 : Nat) (A : Option Addr) (na c : Nat) (es : List El) (w : World) (i m : Nat) (v : Value) (nn : Nat) (cells : List Value) (kv : Value) (K : List Dat) (bs2 : List Nat) : Prop where
  par : Par w pb tg L.length tc i (0 : Nat) m
  toks : Toks w tg L
  upd : New w0 w
  out : w.heap[B0]? = some (.cells #[.slice A na c] 23 (0, 0))
  box1 : w.heap[B1]? = some (.cells #[.int .i64 0] 24 (0, 0))
  box2 : w.heap[B2]? = some (.cells #[.int .i64 0] 3 (0, 0))
  row : w.ownsRow (pb + 1) 58 5 v nn cells
  hks : ∀ e ∈ es, Own w (pb + 1) e.kv e.d.kids e.bs
  hx : Own w (pb + 1) kv K bs2
  nd : (v.ownBlock.toList ++ (es.flatMap El.bs ++ bs2)).Nodup
section
variable {L : List Tok} {w0 w w' : World} {pb tg tc B0 B1 B2 na c : Nat} {A : Option Addr} {es : List El} {i m : Nat} {v : Value} {nn : Nat} {cells : List Value} {kv : Value} {K : List Dat} {bs2 : List Nat}
/-- Where the fixed blocks lie. -/
def Lay (w0 : World) (pb tg B0 B1 B2 : Nat) : Prop := B0 < B1 ∧ B1 < B2 ∧ B2 < pb ∧ tg < pb ∧ B2 < tg ∧ w0.heap.size ≤ B0
theorem Mid.new (h : Mid L w0 pb tg tc B0 B1 B2 A na c es w i m v nn cells kv K bs2) (hn : New w w') : Mid L w0 pb tg tc B0 B1 B2 A na c es w' i m v nn cells kv K bs2 :=
  ⟨hn.heap h.par (fun x => x), h.toks.new hn, h.upd.trans hn, hn.heap h.out (fun x => x), hn.heap h.box1 (fun x => x), hn.heap h.box2 (fun x => x), hn.ownsRow h.row (fun _ _ x => x), fun e he => (h.hks e he).upd hn (fun _ _ x => x), h.hx.upd hn (fun _ _ x => x), h.nd⟩
theorem Mid.call {j k : Nat} (hy : Lay w0 pb tg B0 B1 B2) (h : Mid L w0 pb tg tc B0 B1 B2 A na c es w i m v nn cells (.slice none 0 0) [] []) (hp : Par w' pb tg L.length tc j (0 : Nat) k) (hu : Upd (fun b => b = pb) w w') (ho : Own w' w.heap.size kv K bs2) (hnd : bs2.Nodup) :
    Mid L w0 pb tg tc B0 B1 B2 A na c es w' j k v nn cells kv K bs2 := by
  obtain ⟨y0, y1, y2, y3, y4, y5⟩ := hy
  have hpl := h.par.lt
  have hsz := h.upd.size
  refine ⟨hp, h.toks.upd hu (by omega), h.upd.trans' hu (fun b hb e => by omega), hu.heap h.out (by omega), hu.heap h.box1 (by omega), hu.heap h.box2 (by omega), hu.ownsRow h.row (fun q hq e => by have := (own_lt h.row q hq).1; omega),
    fun e he => (h.hks e he).upd hu (fun b hb e2 => by have := ((h.hks e he).blocks b hb).1; omega), ho.mono (by omega), ?_⟩
  have hnd' := h.nd
  rw [List.append_nil] at hnd'
  rw [← List.append_assoc]
  refine List.nodup_append.2 ⟨hnd', hnd, ?_⟩
  intro a ha b hb e
  have h1 := (ho.blocks b hb).1
  have h2 : a < w.heap.size := by
    rcases List.mem_append.1 ha with ha | ha
    · exact (own_lt h.row a (by simpa using ha)).2
    · obtain ⟨e, he, hb⟩ := List.mem_flatMap.1 ha
      exact ((h.hks e he).blocks a hb).2
  omega
theorem Mid.app {v' : Value} {nn' : Nat} {cells' : List Value} (hy : Lay w0 pb tg B0 B1 B2) (h : Mid L w0 pb tg tc B0 B1 B2 A na c es w i m v nn cells kv K bs2) (hg : w.grownBy w' v.ownBlock) (ho : w'.ownsRow (pb + 1) 58 5 v' nn' cells') (hat : v'.ownBlock = v.ownBlock ∨ v'.ownBlock = some w.heap.size) :
    Mid L w0 pb tg tc B0 B1 B2 A na c es w' i m v' nn' cells' kv K bs2 := by
  obtain ⟨y0, y1, y2, y3, y4, y5⟩ := hy
  have hpl := h.par.lt
  have hsz := h.upd.size
  have hvb : ∀ b, v.ownBlock = some b → pb + 1 ≤ b := fun b hb => (own_lt h.row b hb).1
  have hin : ∀ b ∈ es.flatMap El.bs ++ bs2, b < w.heap.size ∧ v.ownBlock ≠ some b := by
    intro b hb
    refine ⟨?_, fun e => ?_⟩
    · rcases List.mem_append.1 hb with hb | hb
      · obtain ⟨e, he, hb⟩ := List.mem_flatMap.1 hb
        exact ((h.hks e he).blocks b hb).2
      · exact (h.hx.blocks b hb).2
    · have := h.nd
      rw [e] at this
      exact (List.nodup_cons.1 this).1 hb
  have hu : Upd (fun b => v.ownBlock = some b) w w' := Upd.grown (Upd.refl (fun b => v.ownBlock = some b) w) hg (fun b hb _ => hb)
  refine ⟨hu.heap h.par (fun e => by have := hvb _ e; omega), h.toks.upd hu (fun e => by have := hvb _ e; omega), h.upd.trans' hu (fun b hb e => by have := hvb _ e; omega), hu.heap h.out (fun e => by have := hvb _ e; omega), hu.heap h.box1 (fun e => by have := hvb _ e; omega), hu.heap h.box2 (fun e => by have := hvb _ e; omega), ho,
    fun e he => (h.hks e he).upd hu (fun b hb e2 => (hin b (List.mem_append.2 (.inl (List.mem_flatMap.2 ⟨e, he, hb⟩)))).2 e2), h.hx.upd hu (fun b hb e2 => (hin b (List.mem_append.2 (.inr hb))).2 e2), ?_⟩
  have hnd2 := (List.nodup_append.1 h.nd).2.1
  refine List.nodup_append.2 ⟨by cases v'.ownBlock <;> simp, hnd2, ?_⟩
  intro a ha b hb e
  subst e
  have := hin a hb
  rcases hat with e | e
  · rw [e] at ha; exact this.2 (by simpa using ha)
  · rw [e] at ha; simp at ha; omega
end
/-- What Read's loop holds. -/
structure Top (L : List Tok) (w0 : World) (pb tg tc B0 B1 B2 : Nat) (r : PR (List Dat)) (gk : Nat) (w : World) (i m : Nat) (es : List El) (A : Option Addr) (c : Nat) : Prop where
  res : r = pTop L gk i m (es.map El.d)
  fuel : 2 * (L.length - i) + 1 ≤ gk
  lt : i < L.length
  many : m ≤ 10000
  len : es.length ≤ i
  mid : Mid L w0 pb tg tc B0 B1 B2 A es.length c es w i m (.slice A es.length c) es.length (elCells es) (.slice none 0 0) [] []

theorem elCells_put (es : List El) (u0 u1 u2 u3 u4 v0 v1 v2 v3 v4 : Value) :
    (((((elCells es ++ [v0, v1, v2, v3, v4]).set (es.length * 5) u0).set (es.length * 5 + 1) u1).set (es.length * 5 + 2) u2).set (es.length * 5 + 3) u3).set (es.length * 5 + 4) u4 = elCells es ++ [u0, u1, u2, u3, u4] := by
  have hl := elCells_length es
  simp [List.set_append, hl]
theorem top_next {L : List Tok} {w0 w : World} {pb tg tc B0 B1 B2 g i m c c1 c2 j k i0 m0 G : Nat} {r : PR (List Dat)} {A A2 : Option Addr} {es : List El} {bs2 : List Nat} {x : Dat} (hy : Lay w0 pb tg B0 B1 B2)
    (hT : 2 * (L.length - i0) + 1 ≤ g + 1 ∧ es.length ≤ i0) (hij : i0 < j) (hj : j < L.length) (hk : k ≤ 10000) (hres : r = pTop L g j k (es.map El.d ++ [x]))
    (h : Mid L w0 pb tg tc B0 B1 B2 A es.length c es w j k (.slice (some ⟨G, 0, none⟩) (es.length + 1) c1) (es.length + 1) (elCells es ++ [.int .u8 0, .int .i64 0, .string ⟨#[]⟩, .slice none 0 0, .bool false]) (.slice A2 x.kids.length c2) x.kids bs2) :
    Top L w0 pb tg tc B0 B1 B2 r g ((((((w.setCell ⟨G, es.length * 5, none⟩ (.int .u8 x.k)).setCell ⟨G, es.length * 5 + 1, none⟩ (.int .i64 x.n)).setCell ⟨G, es.length * 5 + 2, none⟩ (.string x.t)).setCell ⟨G, es.length * 5 + 3, none⟩ (.slice A2 x.kids.length c2)).setCell ⟨G, es.length * 5 + 4, none⟩ (.bool x.dot)).setCell ⟨B0, 0, none⟩ (.slice (some ⟨G, 0, none⟩) (es.length + 1) c1)) j k (es ++ [⟨x, .slice A2 x.kids.length c2, bs2⟩]) (some ⟨G, 0, none⟩) c1 := by
  have hrow := own_put (own_put (own_put (own_put (own_put h.row (es.length * 5) (.int .u8 x.k)) (es.length * 5 + 1) (.int .i64 x.n)) (es.length * 5 + 2) (.string x.t)) (es.length * 5 + 3) (.slice A2 x.kids.length c2)) (es.length * 5 + 4) (.bool x.dot)
  rw [elCells_put] at hrow
  have hy' := hy
  obtain ⟨y0, y1, y2, y3, y4, y5⟩ := hy'
  have hG : pb + 1 ≤ G := (own_lt h.row G rfl).1
  have hGw : G < w.heap.size := (own_lt h.row G rfl).2
  have hin : ∀ b ∈ es.flatMap El.bs ++ bs2, pb + 1 ≤ b ∧ G ≠ b := by
    intro b hb
    refine ⟨?_, fun e => ?_⟩
    · rcases List.mem_append.1 hb with hb | hb
      · obtain ⟨e, he, hb⟩ := List.mem_flatMap.1 hb
        exact ((h.hks e he).blocks b hb).1
      · exact (h.hx.blocks b hb).1
    · have := h.nd
      rw [e] at this
      exact (List.nodup_cons.1 this).1 hb
  generalize hW : ((((w.setCell ⟨G, es.length * 5, none⟩ (.int .u8 x.k)).setCell ⟨G, es.length * 5 + 1, none⟩ (.int .i64 x.n)).setCell ⟨G, es.length * 5 + 2, none⟩ (.string x.t)).setCell ⟨G, es.length * 5 + 3, none⟩ (.slice A2 x.kids.length c2)).setCell ⟨G, es.length * 5 + 4, none⟩ (.bool x.dot) = W at hrow ⊢
  have hu5 : Upd (fun b => b = G) w W := by
    rw [← hW]
    exact (((((Upd.refl (fun b => b = G) w).set rfl _).set rfl _).set rfl _).set rfl _).set rfl _
  have hu : Upd (fun b => b = G ∨ b = B0) w (W.setCell ⟨B0, 0, none⟩ (.slice (some ⟨G, 0, none⟩) (es.length + 1) c1)) := (hu5.mono (fun _ _ e => .inl e)).set (.inr rfl) _
  have hlen : (es ++ [(⟨x, .slice A2 x.kids.length c2, bs2⟩ : El)]).length = es.length + 1 := by simp
  refine ⟨by simpa using hres, by omega, hj, hk, by rw [hlen]; omega, ?_⟩
  rw [hlen]
  have hks : ∀ e ∈ es ++ [(⟨x, .slice A2 x.kids.length c2, bs2⟩ : El)], Own (W.setCell ⟨B0, 0, none⟩ (.slice (some ⟨G, 0, none⟩) (es.length + 1) c1)) (pb + 1) e.kv e.d.kids e.bs := by
    intro e he
    rcases List.mem_append.1 he with he | he
    · exact (h.hks e he).upd hu (fun b hb e2 => by have := hin b (List.mem_append.2 (.inl (List.mem_flatMap.2 ⟨e, he, hb⟩))); omega)
    · rw [List.mem_singleton.1 he]
      exact h.hx.upd hu (fun b hb e2 => by have := hin b (List.mem_append.2 (.inr hb)); omega)
  have hsz := h.upd.size
  refine ⟨hu.heap h.par (by omega), h.toks.upd hu (by omega), h.upd.trans' hu (fun b hb e => by omega), bset1 (hu5.heap h.out (by omega)) _, hu.heap h.box1 (by omega), hu.heap h.box2 (by omega), ?_, hks, Own.nil _ _, ?_⟩
  · have := ownsRow_setCell_other hrow (a := ⟨B0, 0, none⟩) (by simp [Value.ownBlock]; omega) (.slice (some ⟨G, 0, none⟩) (es.length + 1) c1)
    simpa [elCells, El.cells, datC] using this
  · have := h.nd
    simpa using this
end Go.Proofs.Ytnnjhafjcdjobaa
