/- The reference's reader: the state of a list that is being read. The reference's reader: a list, in one state or the other. The reference's reader: a datum, whatever it is. -/
import Derived.Test.YtnnjhafjcdjobaaRrM
import Derived.Test.YtnnjhafjcdjobaaRdF
import Derived.Test.YtnnjhafjcdjobaaRdG
import Derived.Deep.LoopGhost
import Derived.Deep.QuietTactic
import Derived.BigQuiet
namespace Go.Proofs.Ytnnjhafjcdjobaa
open Go.RowKit
set_option linter.unusedVariables false
set_option linter.unusedSimpArgs false

/-- The heap of list while it works; D: the block of the list's own datum. The result's block is the first new one. -/
structure RCore (L : List Tok) (w0 : World) (rb tg D : Nat) (w : World) (kids : List Dat) (A : Option Addr) (c : Nat) (dot : Bool) (bs : List Nat) : Prop where
  lrb : rb < w0.heap.size
  ltg : tg < w0.heap.size
  ne : tg ≠ rb
  lD : w0.heap.size < D
  toks : Toks w tg L
  upd : Upd (fun b => b = rb) w0 w
  out : w.heap[w0.heap.size]? = some (.cells #[.int .u8 0, .int .i64 0, .string ⟨#[]⟩, .slice none 0 0, .bool false] 58 (0, 0))
  box : w.heap[D]? = some (.cells #[.int .u8 5, .int .i64 0, .string ⟨#[]⟩, .slice A kids.length c, .bool dot] 58 (0, 0))
  own : Own w (D + 1) (.slice A kids.length c) kids bs
  nodup : bs.Nodup
section
variable {L : List Tok} {w0 w w' w3 w3' w4 : World} {rb tg tc D c c1 : Nat} {A A1 : Option Addr} {kids : List Dat} {dot : Bool} {bs : List Nat}
theorem RCore.to (h : RCore L w0 rb tg D w kids A c dot bs) (hu : Upd (fun b => b = rb) w w') : RCore L w0 rb tg D w' kids A c dot bs :=
  ⟨h.lrb, h.ltg, h.ne, h.lD, h.toks.upd hu h.ne, h.upd.trans hu, hu.heap h.out (by have := h.lrb; omega), hu.heap h.box (by have := h.lrb; have := h.lD; omega),
    h.own.upd hu (fun b hb e => by have := (h.own.blocks b hb).1; have := h.lrb; have := h.lD; omega), h.nodup⟩
theorem RCore.new (h : RCore L w0 rb tg D w kids A c dot bs) (hu : New w w') : RCore L w0 rb tg D w' kids A c dot bs := h.to (hu.mono fun _ _ x => x.elim)
theorem RCore.lt (h : RCore L w0 rb tg D w kids A c dot bs) : D < w.heap.size := (Array.getElem?_eq_some_iff.1 h.box).1
theorem RCore.vb (h : RCore L w0 rb tg D w kids A c dot bs) : ∀ b, (Value.slice A kids.length c).ownBlock = some b → D + 1 ≤ b ∧ b < w.heap.size ∧ b ∈ bs := by
  intro b hb
  obtain ⟨es, _, hbs, hrow, _⟩ := h.own.inv
  have hm : b ∈ bs := by rw [hbs, hb]; simp
  have := h.own.blocks b hm
  exact ⟨this.1, this.2, hm⟩
theorem RCore.setDot (h : RCore L w0 rb tg D w kids A c dot bs) (d2 : Bool) : RCore L w0 rb tg D (w.setCell ⟨D, 4, none⟩ (.bool d2)) kids A c d2 bs := by
  have hlD := h.lD
  have hD : D ∉ bs := fun e => by have := (h.own.blocks _ e).1; omega
  refine ⟨h.lrb, h.ltg, h.ne, h.lD, h.toks.upd ((Upd.refl (fun b => b = D) w).set rfl _) (by have := h.ltg; omega), h.upd.new (by omega) _, bother h.out (by omega) _, ?_, h.own.setCell hD _, h.nodup⟩
  have := bset h.box 4 (.bool d2)
  simpa using this
theorem RCore.grow {es es2 : List El} (h : RCore L w0 rb tg D w (es.map El.d) A c dot bs) (hbs : bs = (Value.slice A es.length c).ownBlock.toList ++ es.flatMap El.bs) (hks : ∀ e ∈ es, Own w (D + 1) e.kv e.d.kids e.bs) (hu : Upd (fun b => b = rb) w w3)
    (hw : ∀ e ∈ es2, Own w3 w.heap.size e.kv e.d.kids e.bs) (hnd2 : (es2.flatMap El.bs).Nodup) (hn : New w3 w3')
    (ho : w4.ownsRow (D + 1) 58 5 (.slice A1 (es.length + es2.length) c1) (es.length + es2.length) (elCells es ++ elCells es2)) (hg : w3'.grownBy w4 (Value.slice A es.length c).ownBlock)
    (hat : (Value.slice A1 (es.length + es2.length) c1).ownBlock = (Value.slice A es.length c).ownBlock ∨ (Value.slice A1 (es.length + es2.length) c1).ownBlock = some w3'.heap.size) :
    ∃ bs', RCore L w0 rb tg D (w4.setCell ⟨D, 3, none⟩ (.slice A1 (es.length + es2.length) c1)) (es.map El.d ++ es2.map El.d) A1 c1 dot bs' ∧ (∀ b ∈ bs', b ∈ bs ∨ b ∈ es2.flatMap El.bs ∨ w3.heap.size ≤ b) ∧
      Upd (fun b => b = D ∨ (Value.slice A es.length c).ownBlock = some b) w3 (w4.setCell ⟨D, 3, none⟩ (.slice A1 (es.length + es2.length) c1)) := by
  have hlrb := h.lrb
  have hltg := h.ltg
  have hlD := h.lD
  have hlt := h.own.blocks
  have hvb := h.vb
  rw [List.length_map] at hvb
  have hH2 := h.lt
  have hsz := hu.size
  have hszn := hn.size
  have hu0 : Upd (fun b => b = rb) w w3' := hu.trans (hn.mono fun _ _ x => x.elim)
  have hu4 : Upd (fun b => b = rb ∨ (Value.slice A es.length c).ownBlock = some b) w w4 := Upd.grown (hu0.mono fun _ _ x => .inl x) hg fun b hb _ => .inr hb
  have hu34 : Upd (fun b => (Value.slice A es.length c).ownBlock = some b) w3 w4 := Upd.grown (hn.mono fun _ _ x => x.elim) hg fun b hb _ => hb
  obtain ⟨bs', h1, h2, h3⟩ := own_grown (w := w3') (w1 := w4) (base := D + 1) (v := .slice A es.length c) es es2
    (fun e he => by
      rcases List.mem_append.1 he with he | he
      · exact (hks e he).upd hu0 (fun b hb e2 => by have := ((hks e he).blocks b hb).1; omega)
      · exact ((hw e he).mono (by omega)).upd hn (fun _ _ x => x))
    ho hg hat (by
      rw [List.flatMap_append, ← List.append_assoc, ← hbs]
      refine List.nodup_append.2 ⟨h.nodup, hnd2, ?_⟩
      intro a ha b hb e
      have := (hlt a ha).2
      obtain ⟨x, hx, hbx⟩ := List.mem_flatMap.1 hb
      have := ((hw x hx).blocks b hbx).1
      omega)
  have hD : D ∉ bs' := fun e => by have := (h1.blocks _ e).1; omega
  have hfO : ¬ (w0.heap.size = rb ∨ (Value.slice A es.length c).ownBlock = some w0.heap.size) := by rintro (e | e); omega; have := (hvb _ e).1; omega
  have hfB : ¬ (D = rb ∨ (Value.slice A es.length c).ownBlock = some D) := by rintro (e | e); omega; have := (hvb _ e).1; omega
  have hfT : ¬ (tg = rb ∨ (Value.slice A es.length c).ownBlock = some tg) := by
    rintro (e | e)
    · exact h.ne e
    · have := (hvb _ e).1; omega
  have hbox := hu4.heap h.box hfB
  have hlen : (es.map El.d ++ es2.map El.d).length = es.length + es2.length := by simp
  have hm : ∀ b ∈ bs', b ∈ bs ∨ b ∈ es2.flatMap El.bs ∨ w3.heap.size ≤ b := by
    intro b hb
    rcases h3 b hb with e | e | e
    · exact .inl (hvb b e).2.2
    · rw [List.flatMap_append] at e
      rcases List.mem_append.1 e with e | e
      · exact .inl (by rw [hbs]; exact List.mem_append.2 (.inr e))
      · exact .inr (.inl e)
    · exact .inr (.inr (by omega))
  refine ⟨bs', ⟨hlrb, hltg, h.ne, hlD, (h.toks.upd hu4 hfT).upd ((Upd.refl (fun b => b = D) w4).set rfl _) (by omega), ?_, bother (hu4.heap h.out hfO) (by omega) _, ?_, ?_, h2⟩, hm, (hu34.mono fun _ _ x => .inr x).set (.inl rfl) _⟩
  · have hx : Upd (fun b => b = rb) w0 w4 := h.upd.trans' hu4 (fun b hb e => by rcases e with e | e; exact e; have := (hvb _ e).1; omega)
    exact hx.new (by omega) _
  · have := bset hbox 3 (.slice A1 (es.length + es2.length) c1)
    rw [hlen]
    simpa using this
  · rw [hlen, ← List.map_append]
    have := h1.setCell (i := 3) hD (.slice A1 (es.length + es2.length) c1)
    simpa using this
/-- What the fault's block is, apart from what list holds. -/
structure RErr (w0 : World) (rb tg tl tc D : Nat) (er a : Int) (w : World) (g : Nat) (z1 z2 z3 : Int) (bs : List Nat) : Prop where
  par : RPar w rb tg tl tc z1 z2 z3 (.pointer (some ⟨g, 0, none⟩))
  err : w.heap[g]? = some (.cells #[.int .i64 er, .int .i64 a] 104 (0, 0))
  gH : w0.heap.size < g
  gD : g ≠ D
  gbs : g ∉ bs
theorem rl_done {tl i o m : Nat} {i' o' : Int} (h : RCore L w0 rb tg D w kids A c dot bs) (hp : RPar w rb tg tl tc i (o + 1 : Nat) m (.pointer none)) (hi : i' = (i : Int) + 1) (ho : o' = (o : Int)) :
    RDOk w0 rb tg tl tc (lst kids dot) (i + 1) o m (.returned (.agg #[.int .u8 5, .int .i64 0, .string ⟨#[]⟩, .slice A kids.length c, .bool dot]))
      (((((((w.setCell ⟨rb, 1, none⟩ (.int .i64 i')).setCell ⟨rb, 2, none⟩ (.int .i64 o')).setCell ⟨w0.heap.size, 0, none⟩ (.int .u8 5)).setCell ⟨w0.heap.size, 1, none⟩ (.int .i64 0)).setCell ⟨w0.heap.size, 2, none⟩ (.string ⟨#[]⟩)).setCell ⟨w0.heap.size, 3, none⟩ (.slice A kids.length c)).setCell ⟨w0.heap.size, 4, none⟩ (.bool dot)) := by
  subst hi ho
  have hlrb := h.lrb
  have hlD := h.lD
  have hpb : rb ∉ bs := fun e => by have := (h.own.blocks _ e).1; omega
  have hn0 : w0.heap.size ∉ bs := fun e => by have := (h.own.blocks _ e).1; omega
  exact ⟨_, bs, rfl, bother5 (by omega) ((rpar_set ((rpar_set hp).1 _)).2.1 _), upd5 (Nat.le_refl _) ((h.upd.set rfl _).set rfl _), (((h.own.mono (by omega)).setCell hpb _).setCell hpb _).set5 hn0, h.nodup⟩
theorem rl_bad {tl g at_ : Nat} {er a z1 z2 z3 y1 y2 : Int} (h : RCore L w0 rb tg D w kids A c dot bs) (hp : RErr w0 rb tg tl tc D er a w g z1 z2 z3 bs) (hk : kids.length + at_ ≤ tl) :
    RDBad w0 rb tg tl tc at_ er a (.returned (.agg #[.int .u8 5, .int .i64 0, .string ⟨#[]⟩, .slice A kids.length c, .bool dot]))
      (((((((w.setCell ⟨rb, 1, none⟩ (.int .i64 y1)).setCell ⟨rb, 2, none⟩ (.int .i64 y2)).setCell ⟨w0.heap.size, 0, none⟩ (.int .u8 5)).setCell ⟨w0.heap.size, 1, none⟩ (.int .i64 0)).setCell ⟨w0.heap.size, 2, none⟩ (.string ⟨#[]⟩)).setCell ⟨w0.heap.size, 3, none⟩ (.slice A kids.length c)).setCell ⟨w0.heap.size, 4, none⟩ (.bool dot)) := by
  have hlrb := h.lrb
  have hlD := h.lD
  have hgH := hp.gH
  have hpb : rb ∉ bs := fun e => by have := (h.own.blocks _ e).1; omega
  have hn0 : w0.heap.size ∉ bs := fun e => by have := (h.own.blocks _ e).1; omega
  exact ⟨lst kids dot, _, bs, y1, y2, z3, g, rfl, by omega, bother5 (by omega) ((rpar_set ((rpar_set hp.par).1 _)).2.1 _), bother5 (by omega) (bother (bother hp.err (by omega) _) (by omega) _), upd5 (Nat.le_refl _) ((h.upd.set rfl _).set rfl _), (((h.own.mono (by omega)).setCell hpb _).setCell hpb _).set5 hn0, h.nodup, hp.gbs, hk⟩
/-- list gives up without another step. -/
theorem rl_form {tl g at_ : Nat} {er a z1 z2 z3 : Int} (h : RCore L w0 rb tg D w kids A c dot bs) (hp : RErr w0 rb tg tl tc D er a w g z1 z2 z3 bs) (hk : kids.length + at_ ≤ tl) :
    RDBad w0 rb tg tl tc at_ er a (.returned (.agg #[.int .u8 5, .int .i64 0, .string ⟨#[]⟩, .slice A kids.length c, .bool dot]))
      (((((w.setCell ⟨w0.heap.size, 0, none⟩ (.int .u8 5)).setCell ⟨w0.heap.size, 1, none⟩ (.int .i64 0)).setCell ⟨w0.heap.size, 2, none⟩ (.string ⟨#[]⟩)).setCell ⟨w0.heap.size, 3, none⟩ (.slice A kids.length c)).setCell ⟨w0.heap.size, 4, none⟩ (.bool dot)) := by
  have hlrb := h.lrb
  have hlD := h.lD
  have hgH := hp.gH
  have hn0 : w0.heap.size ∉ bs := fun e => by have := (h.own.blocks _ e).1; omega
  exact ⟨lst kids dot, _, bs, z1, z2, z3, g, rfl, by omega, bother5 (by omega) hp.par, bother5 (by omega) hp.err, upd5 (Nat.le_refl _) h.upd, (h.own.mono (by omega)).set5 hn0, h.nodup, hp.gbs, hk⟩
end
end Go.Proofs.Ytnnjhafjcdjobaa

namespace Go.Proofs.Ytnnjhafjcdjobaa
open Go.RowKit
set_option linter.unusedVariables false
set_option linter.unusedSimpArgs false

/-- What datum leaves, read or not. -/
def RDAny (w : World) (rb tg tl tc at_ o : Nat) (rd : PR Dat) (e : Ending) (w' : World) : Prop :=
  ∃ (d : Dat) (kv : Value) (bs : List Nat) (z1 z2 z3 : Int) (bp : Value), e = .returned (datV d kv) ∧ RPar w' rb tg tl tc z1 z2 z3 bp ∧ Upd (fun b => b = rb) w w' ∧ Own w' w.heap.size kv d.kids bs ∧ bs.Nodup ∧
    ((∃ j k : Nat, rd = .ok d j k ∧ z1 = (j : Int) ∧ z2 = (o : Int) ∧ z3 = (k : Int) ∧ bp = .pointer none) ∨
     (∃ (er : Int) (a g : Nat), rd = .bad er a ∧ bp = .pointer (some ⟨g, 0, none⟩) ∧ w.heap.size ≤ g ∧ w'.heap[g]? = some (.cells #[.int .i64 er, .int .i64 a] 104 (0, 0)) ∧ g ∉ bs ∧ d.kids.length + at_ ≤ tl))
theorem RDPost.any {w w' : World} {rb tg tl tc at_ o : Nat} {rd : PR Dat} {e : Ending} (h : RDPost w rb tg tl tc at_ o rd e w') (hne : rd ≠ .out) : RDAny w rb tg tl tc at_ o rd e w' := by
  cases rd with
  | out => exact absurd rfl hne
  | ok d j k =>
    obtain ⟨kv, bs, h1, h2, h3, h4, h5⟩ := h
    exact ⟨d, kv, bs, j, o, k, _, h1, h2, h3, h4, h5, .inl ⟨j, k, rfl, rfl, rfl, rfl, rfl⟩⟩
  | bad er a =>
    obtain ⟨d, kv, bs, z1, z2, z3, g, h1, h2, h3, h4, h5, h6, h7, h8, h9⟩ := h
    exact ⟨d, kv, bs, z1, z2, z3, _, h1, h3, h5, h6, h7,   .inr ⟨er, a, g, rfl, rfl, h2, h4, h8, h9⟩⟩
/-- A list that is read well so far. -/
structure RGood (L : List Tok) (w0 : World) (rb tg tc D s0 o : Nat) (r : PR Dat) (gk : Nat) (w : World) (i m : Nat) (kids : List Dat) (A : Option Addr) (c : Nat) (bs : List Nat) : Prop where
  res : r = pList L gk i (o + 1) m kids
  fuel : 2 * (L.length - i) + 1 ≤ gk
  lt : i < L.length
  many : m ≤ 10000
  opn : o + 1 ≤ 100
  par : RPar w rb tg L.length tc i (o + 1 : Nat) m (.pointer none)
  core : RCore L w0 rb tg D w kids A c false bs
  len : kids.length + s0 + 1 ≤ i
/-- A list that has met a fault. -/
structure RLost (L : List Tok) (w0 : World) (rb tg tc D s0 : Nat) (r : PR Dat) (w : World) (kids : List Dat) (A : Option Addr) (c : Nat) (bs : List Nat) (er : Int) (a g : Nat) (z1 z2 z3 : Int) : Prop where
  res : r = .bad er a
  core : RCore L w0 rb tg D w kids A c false bs
  err : RErr w0 rb tg L.length tc D er a w g z1 z2 z3 bs
  len : kids.length + s0 ≤ L.length
def RDATUM (L : List Tok) (rb tg tc n : Nat) : Prop := ∀ (w : World) (i o m : Nat), RPar w rb tg L.length tc i o m (.pointer none) → Toks w tg L → i < L.length → 2 * (L.length - i) ≤ n → m ≤ 10000 → o ≤ 100 →
  Calls Try.prog 51 #[.pointer (some ⟨rb, 0, none⟩)] w (RDPost w rb tg L.length tc i o (pDat L n i o m))
/-- What a list gives that begins with its bracket. -/
def openR (L : List Tok) (n i o m : Nat) : PR Dat := if 100 ≤ o then .bad 61 (tokA L i) else if 10000 < m + 1 then .bad 62 (tokA L i) else pList L n (i + 1) (o + 1) (m + 1) []
def RLIST (L : List Tok) (rb tg tc n : Nat) : Prop := ∀ (w : World) (i o m : Nat), RPar w rb tg L.length tc i o m (.pointer none) → Toks w tg L → i < L.length → tokK L i = 1 → 2 * (L.length - i) ≤ n + 1 → m ≤ 10000 → o ≤ 100 →
  Calls Try.prog 96 #[.pointer (some ⟨rb, 0, none⟩)] w (RDPost w rb tg L.length tc i o (openR L n i o m))
theorem opens_any (L : List Tok) (n : Nat) (rb tg tc i o m : Nat) (hi : i < L.length) (hl : (L.length : Int) ≤ 1048577) (hne : tg ≠ rb) (hm : m ≤ 10000) (ho : o ≤ 100) (w : World) (hp : RPar w rb tg L.length tc i o m (.pointer none)) (ht : Toks w tg L) :
    Calls Try.prog 97 #[.pointer (some ⟨rb, 0, none⟩), .int .i64 1] w fun e w' => e = .returned (.tuple #[]) ∧ ∃ (z2 z3 : Int) (bp : Value), RPar w' rb tg L.length tc i z2 z3 bp ∧ Upd (fun b => b = rb) w w' ∧
      ((z2 = (o + 1 : Nat) ∧ z3 = (m + 1 : Nat) ∧ bp = .pointer none ∧ openR L n i o m = pList L n (i + 1) (o + 1) (m + 1) [] ∧ m + 1 ≤ 10000 ∧ o + 1 ≤ 100) ∨ ∃ (er : Int) (a g : Nat), bp = .pointer (some ⟨g, 0, none⟩) ∧ w.heap.size ≤ g ∧ w'.heap[g]? = some (.cells #[.int .i64 er, .int .i64 a] 104 (0, 0)) ∧ openR L n i o m = .bad er a) := by
  unfold openR
  by_cases h1 : 100 ≤ o
  · rw [if_pos h1]
    have : o = 100 := by omega
    subst this
    refine (ropens_deep L w rb tg tc i m 1 hp ht hi hl hne (by omega)).mono ?_
    rintro e w' ⟨rfl, g, h2, h3, h4, h5⟩
    exact ⟨rfl, _, _, _, h3, h5, .inr ⟨_, _, g, rfl, h2, h4, rfl⟩⟩
  · rw [if_neg h1]
    by_cases h2 : 10000 < m + 1
    · rw [if_pos h2]
      refine (ropens_much L w rb tg tc i o m 1 hp ht hi hl hne (by omega) h2 (by omega)).mono ?_
      rintro e w' ⟨rfl, g, h2, h3, h4, h5⟩
      exact ⟨rfl, _, _, _, h3, h5, .inr ⟨_, _, g, rfl, h2, h4, rfl⟩⟩
    · rw [if_neg h2]
      refine (ropens_ok w rb tg L.length tc i o m 1 hp (by omega) (by omega)).mono ?_
      rintro e w' ⟨rfl, h3, h4⟩
      exact ⟨rfl, _, _, _, h3, h4, .inl ⟨rfl, rfl, rfl, rfl, by omega, by omega⟩⟩

set_option maxHeartbeats 16000000 in
set_option maxRecDepth 100000 in
theorem rlist_step (L : List Tok) (hL : EndL L) (hl : (L.length : Int) ≤ 1048577) (rb tg tc : Nat) (hne : tg ≠ rb) (n : Nat) (ihD : ∀ n', n' < n → RDATUM L rb tg tc n') : RLIST L rb tg tc n := by
  intro w s0 o m hp ht hi h1 hf hm ho
  obtain ⟨i0, hi0, hz0, hz1, hz2⟩ := info_parts info58
  have hil := hL.lt hi (by omega)
  have hpl := hp.lt
  have htl := ht.1
  have HI := Lib.hid ihD
  have HC := Lib.hid (fun w' hp ht => opens_any L n rb tg tc s0 o m hi hl hne hm ho w' hp ht)
  have HPA := Lib.hid (show RPar (w.alloc (.cells #[.int .u8 0, .int .i64 0, .string ⟨#[]⟩, .slice none 0 0, .bool false] 58)) rb tg L.length tc s0 o m (.pointer none) from halloc hp _)
  have HTA := Lib.hid (ht.alloc (.cells #[.int .u8 0, .int .i64 0, .string ⟨#[]⟩, .slice none 0 0, .bool false] 58))
  have hox := heap_alloc_new w (.cells #[.int .u8 0, .int .i64 0, .string ⟨#[]⟩, .slice none 0 0, .bool false] 58)
  have hfine : 2 * (L.length - (s0 + 1)) + 1 ≤ n := by omega
  generalize hr : openR L n s0 o m = r at *
  have HOX := Lib.hid hox
  have q0 : (0 : Int) ≤ s0 := by omega
  have q1 : (s0 : Int) + 1 < L.length := by omega
  clear ihD hp ht hox hr
  go_enter Try.func96, Try.ntmps96
  go_wp2_with fail
  refine (HC.out _ HPA.out HTA.out).mono ?_
  rintro e w1 ⟨rfl, z2', z3', bp, hp1, hu1, hor⟩
  have HO1 := Lib.hid hor
  have HU1 := Lib.hid hu1
  have HP1 := Lib.hid hp1
  have hs1 := hu1.size
  rw [World.size_alloc] at hs1
  obtain ⟨z0, z1, z2, z3, z4, zf0, zf1, zf2, zf3, zf4⟩ := rblk hp1
  clear hu1 hp1 hor
  go_wp2_with fail
  have hcore : RCore L w rb tg w1.heap.size ((w1.setCell ⟨rb, 1, none⟩ (.int .i64 ((s0 : Int) + 1))).alloc (.cells #[.int .u8 5, .int .i64 0, .string ⟨#[]⟩, .slice none 0 0, .bool false] 58)) [] none 0 false [] := by
    have hu2 := HU1.out.set (b := rb) (i := 1) rfl (.int .i64 ((s0 : Int) + 1))
    refine ⟨hpl, htl, hne, by omega, ?_, ?_, halloc (hu2.heap HOX.out (by omega)) _, ?_, Own.nil _ _, List.nodup_nil⟩
    · exact (HTA.out.upd hu2 hne).alloc _
    · exact (((Upd.refl (fun b => b = rb) w).alloc _).trans hu2).alloc _
    · have := heap_alloc_new (w1.setCell ⟨rb, 1, none⟩ (.int .i64 ((s0 : Int) + 1))) (.cells #[.int .u8 5, .int .i64 0, .string ⟨#[]⟩, .slice none 0 0, .bool false] 58)
      simpa using this
  have hstart : (∃ (j m : Nat) (kids : List Dat) (A : Option Addr) (c : Nat) (bs : List Nat), RGood L w rb tg tc w1.heap.size s0 o r n ((w1.setCell ⟨rb, 1, none⟩ (.int .i64 ((s0 : Int) + 1))).alloc (.cells #[.int .u8 5, .int .i64 0, .string ⟨#[]⟩, .slice none 0 0, .bool false] 58)) j m kids A c bs) ∨
      (∃ (kids : List Dat) (A : Option Addr) (c : Nat) (bs : List Nat) (er : Int) (a g : Nat) (z1 z2 z3 : Int), RLost L w rb tg tc w1.heap.size s0 r ((w1.setCell ⟨rb, 1, none⟩ (.int .i64 ((s0 : Int) + 1))).alloc (.cells #[.int .u8 5, .int .i64 0, .string ⟨#[]⟩, .slice none 0 0, .bool false] 58)) kids A c bs er a g z1 z2 z3) := by
    rcases HO1.out with ⟨rfl, rfl, rfl, h2, h3, h5⟩ | ⟨er, a, g, rfl, h2, h3, h4⟩
    · exact .inl ⟨s0 + 1, m + 1, [], none, 0, [], h2, hfine, hil, h3, h5, halloc ((rpar_set HP1.out).1 _) _, hcore, by simp⟩
    · have hg : g < w1.heap.size := (Array.getElem?_eq_some_iff.1 h3).1
      rw [World.size_alloc] at h2
      exact .inr ⟨[], none, 0, [], er, a, g, _, _, _, h4, hcore, ⟨halloc ((rpar_set HP1.out).1 _) _, halloc (bother h3 (by omega) _) _, by omega, by omega, by simp⟩, by simp; omega⟩
  have HST := Lib.hid hstart
  clear hstart hcore
  generalize w1.heap.size = D at *
  go_loopg [] n (fun k wr => k ≤ n ∧ ((∃ (i m : Nat) (kids : List Dat) (A : Option Addr) (c : Nat) (bs : List Nat), RGood L w rb tg tc D s0 o r k wr i m kids A c bs) ∨
    (∃ (kids : List Dat) (A : Option Addr) (c : Nat) (bs : List Nat) (er : Int) (a g : Nat) (z1 z2 z3 : Int), RLost L w rb tg tc D s0 r wr kids A c bs er a g z1 z2 z3)))
  case atStart => exact ⟨Nat.le_refl _, HST.out⟩
  case round =>
    obtain ⟨hgn, hrel⟩ := hrel
    clear HST HP1 HO1 HU1 HC HPA HTA HOX z0 z1 z2 z3 z4 zf0 zf1 zf2 zf3 zf4
    rcases hrel with ⟨i, m, kids, A, c, bs, hrel⟩ | ⟨kids, A, c, bs, er, ea, g, y1, y2, y3, hrel⟩
    · have HR := Lib.hid hrel
      clear hrel
      obtain ⟨g, rfl⟩ : ∃ g, gk = g + 1 := ⟨gk - 1, by have := HR.out.fuel; omega⟩
      have ii0 : (0 : Int) ≤ i := by omega
      have i1 : (i : Int) < L.length := by have := HR.out.lt; omega
      have i2 : (i : Int) + 1 ≤ L.length := by omega
      have hlD := HR.out.core.lD
      have oo : ((o + 1 : Nat) : Int) ≤ 101 := by omega
      have oo0 : (0 : Int) ≤ ((o + 1 : Nat) : Int) := by omega
      obtain ⟨t0, t1, t2, t3⟩ := tok_kind HR.out.core.toks HR.out.lt
      obtain ⟨z0, z1, z2, z3, z4, zf0, zf1, zf2, zf3, zf4⟩ := rblk HR.out.par
      obtain ⟨⟨b0, b1, b2, b3, b4⟩, bf⟩ := blk5 HR.out.core.box
      obtain ⟨⟨a0, a1, a2, a3, a4⟩, af⟩ := blk5 HR.out.core.out
      have hlt := HR.out.core.lt
      by_cases h2 : tokK L i = 2
      · skip
        rw [h2] at t0
        have hr : r = .ok (lst kids false) (i + 1) m := by rw [HR.out.res, pList, if_pos h2]
        subst hr
        clear h2
        go_wp2_with fail
        go_quiet (fail)
        go_wp2_with fail
        go_quiet (fail)
        go_wp2_with fail
        exact bodyPost_ret (results_cell1 rfl _ _ w.heap.size 58 #[_, _, _, _, _] _ rfl (by exact bset5 (bother (bother HR.out.core.out (by omega) _) (by omega) _)) Try.underlying58 rfl size58) rfl (rl_done (HR.out.core.new ((Upd.refl (fun _ => False) wr).drewN _)) (((Upd.refl (fun _ => False) wr).drewN _).heap HR.out.par (fun x => x)) rfl rfl)
      · by_cases h4 : tokK L i = 4
        · rw [h4] at t0
          cases hb : ((kids.length : Int) == 0)
          case false =>
            have hk0 : 0 < kids.length := by have := beq_eq_false_iff_ne.1 hb; omega
            have hil2 := hL.lt HR.out.lt (by omega)
            have hr1 : ∀ x j k, pDat L g (i + 1) (o + 1) m = .ok x j k → tokK L j = 2 → r = .ok (joinD kids x) (j + 1) k := fun x j k h h5 => by rw [HR.out.res, pList, if_neg h2, if_pos ⟨hk0, h4⟩, h]; simp only [h5, if_true]
            have hr0 : ∀ x j k, pDat L g (i + 1) (o + 1) m = .ok x j k → tokK L j ≠ 2 → r = .bad 60 (tokA L j) := fun x j k h h5 => by rw [HR.out.res, pList, if_neg h2, if_pos ⟨hk0, h4⟩, h]; simp only [h5, if_false]
            have hr2 : ∀ e a, pDat L g (i + 1) (o + 1) m = .bad e a → r = .bad e a := fun e a h => by rw [HR.out.res, pList, if_neg h2, if_pos ⟨hk0, h4⟩, h]
            have hfn := ((p_fuel L hL g).1 (i + 1) (o + 1) m hil2 (by have := HR.out.fuel; omega)).1
            have hoo : o + 1 ≤ 100 := HR.out.opn
            have hd := fun w3 (hp : RPar w3 rb tg L.length tc (i + 1 : Nat) (o + 1 : Nat) m (.pointer none)) (ht : Toks w3 tg L) => HI.out g (by omega) w3 (i + 1) (o + 1) m hp ht hil2 (by have := HR.out.fuel; omega) HR.out.many hoo
            have hbd := fun d j k => (p_bounds L hL g).1 (i + 1) (o + 1) m d j k hil2
            have hki : kids.length ≤ L.length := by have := HR.out.len; have := HR.out.lt; omega
            have Hbd := Lib.hid hbd
            generalize pDat L g (i + 1) (o + 1) m = rd at *
            have HD := Lib.hid hd
            have HR0' := Lib.hid hr0
            have HR1' := Lib.hid hr1
            have HR2' := Lib.hid hr2
            have HFN := Lib.hid hfn
            have Hki := Lib.hid hki
            have Hk0 := Lib.hid hk0
            clear h2 h4 hd hbd hr1 hr2 hr0 hki hk0 hfn
            go_wp2_with fail
            go_quiet (fail)
            generalize nq = na at *
            go_wp2_with fail
            go_quiet (fail)
            go_wp2_with fail
            have hcore2 := (HR.out.core.new ((Upd.refl (fun _ => False) wr).drewN (na + nq))).to ((Upd.refl (fun b => b = rb) _).set (b := rb) (i := 1) rfl (.int .i64 ((i : Int) + 1)))
            have hpar2 := (rpar_set (((Upd.refl (fun _ => False) wr).drewN (na + nq)).heap HR.out.par (fun x => x))).1 ((i : Int) + 1)
            generalize (wr.drewN (na + nq)).setCell ⟨rb, 1, none⟩ (.int .i64 ((i : Int) + 1)) = w2 at *
            have HC2 := Lib.hid hcore2
            have HP2 := Lib.hid hpar2
            clear hcore2 hpar2 z0 z1 z2 z3 z4 zf0 zf1 zf2 zf3 zf4 a0 a1 a2 a3 a4 af b0 b1 b2 b3 b4 bf hlt t0 t1 t2 t3
            cases hrd : rd with
            | out => exact absurd hrd HFN.out
            | ok x j k =>
              have hbb := Hbd.out x j k hrd
              have HBB := Lib.hid hbb
              have KL := Lib.hid (show x.kids.length ≤ 1048577 by have := HBB.out; omega)
              have hdd := HD.out w2 HP2.out HC2.out.toks
              rw [hrd] at hdd
              refine hdd.mono ?_
              rintro e w3 ⟨kv, bs2, rfl, hp3, hu3, hw3, hnd3⟩
              clear hbb hdd
              obtain ⟨A2, c2, rfl, hAA⟩ := hw3.len
              clear hAA
              unfold datV
              have HP3 := Lib.hid hp3
              have HU3 := Lib.hid hu3
              have HW3 := Lib.hid hw3
              have HN3 := Lib.hid hnd3
              have hs3 := hu3.size
              have hD2 := HC2.out.lt
              clear hp3 hu3 hw3 hnd3
              go_wp2_with fail
              have hcore4 := (HC2.out.to HU3.out).new ((Upd.refl (fun _ => False) w3).alloc (.cells #[.int .u8 x.k, .int .i64 x.n, .string x.t, .slice A2 x.kids.length c2, .bool x.dot] 58))
              have hpar4 := halloc HP3.out (.cells #[.int .u8 x.k, .int .i64 x.n, .string x.t, .slice A2 x.kids.length c2, .bool x.dot] 58)
              have hx4 := heap_alloc_new w3 (.cells #[.int .u8 x.k, .int .i64 x.n, .string x.t, .slice A2 x.kids.length c2, .bool x.dot] 58)
              have hu4 := HU3.out.alloc (.cells #[.int .u8 x.k, .int .i64 x.n, .string x.t, .slice A2 x.kids.length c2, .bool x.dot] 58)
              have how4 := HW3.out.alloc (.cells #[.int .u8 x.k, .int .i64 x.n, .string x.t, .slice A2 x.kids.length c2, .bool x.dot] 58)
              have hs4 : (w3.alloc (.cells #[.int .u8 x.k, .int .i64 x.n, .string x.t, .slice A2 x.kids.length c2, .bool x.dot] 58)).heap.size = w3.heap.size + 1 := by simp
              generalize w3.alloc (.cells #[.int .u8 x.k, .int .i64 x.n, .string x.t, .slice A2 x.kids.length c2, .bool x.dot] 58) = w4 at *
              have HCW := Lib.hid hcore4
              have HPW := Lib.hid hpar4
              have HXW := Lib.hid hx4
              have HUW := Lib.hid hu4
              have HOW := Lib.hid how4
              clear hcore4 hpar4 hx4 hu4 how4
              obtain ⟨z0, z1, z2, z3, z4, zf0, zf1, zf2, zf3, zf4⟩ := rblk HPW.out
              obtain ⟨t0, t1, t2, t3⟩ := tok_kind HCW.out.toks HBB.out.2.1
              have j0 : (0 : Int) ≤ j := by omega
              have j1 : (j : Int) < L.length := by have := HBB.out; omega
              have j2 : (j : Int) + 1 ≤ L.length := by omega
              by_cases h5 : tokK L j = 2
              · rw [h5] at t0
                have hrr := HR1'.out x j k hrd h5
                subst hrr
                clear h5
                go_quiet (fail)
                have hq : Upd (fun b => b = rb) w4 (w4.drewN nq) := ((Upd.refl (fun _ => False) w4).drewN nq).par
                have hcW := HCW.out.to hq
                have hxW := hq.heap HXW.out (by omega)
                have huW := HUW.out.trans hq
                have hoW := HOW.out.upd hq (fun b hb e => by have := (HOW.out.blocks b hb).1; omega)
                have hsW := hq.size
                have hX : w3.heap.size < (w4.drewN nq).heap.size := by omega
                have hpW := ((Upd.refl (fun _ => False) w4).drewN nq).heap HPW.out (fun x => x)
                generalize w4.drewN nq = w5 at *
                clear z0 z1 z2 z3 z4 zf0 zf1 zf2 zf3 zf4 t0 t1 t2 t3
                have HC5 := Lib.hid hcW
                have HX5 := Lib.hid hxW
                have HU5 := Lib.hid huW
                have HO5 := Lib.hid hoW
                have HP5 := Lib.hid hpW
                clear hcW hxW huW hoW hpW hq hsW
                by_cases hk5 : x.k = 5
                · skip
                  have HK5 := Lib.hid hk5
                  have hk6 : (x.k == 5) = true := by simpa using hk5
                  clear hk5
                  obtain ⟨es, hes, hbs, hrow, hks, h1⟩ := HC2.out.own.es
                  subst hes
                  simp only [List.length_map] at *
                  subst hbs
                  have HVB := Lib.hid (show ∀ q, (Value.slice A es.length c).ownBlock = some q → D + 1 ≤ q ∧ q < w2.heap.size from fun q hq => own_lt hrow q hq)
                  have HROW := Lib.hid (HU5.out.ownsRow hrow (fun q hq e => by have := own_lt hrow q hq; omega))
                  have HKS := Lib.hid hks
                  obtain ⟨⟨b0, b1, b2, b3, b4⟩, bf⟩ := blk5 HC5.out.box
                  obtain ⟨⟨x0, x1, x2, x3, x4⟩, xf⟩ := blk5 HX5.out
                  rw [List.length_map] at b3
                  have hD5 := HC5.out.lt
                  have hH5 : w.heap.size < w5.heap.size := by omega
                  have hrb5 : rb < w5.heap.size := by omega
                  clear hrow hks h1
                  obtain ⟨xk, xn, xt, xkids, xdot⟩ := x
                  simp only [Dat.kids, Dat.dot, Dat.k, Dat.n, Dat.t] at *
                  obtain ⟨esx, hxe, hbsx, hrx, hksx, h1x⟩ := HO5.out.es
                  subst hxe hbsx
                  simp only [List.length_map] at *
                  have HRX := Lib.hid hrx
                  have HKX := Lib.hid hksx
                  have H1X := Lib.hid h1x
                  clear hrx hksx h1x
                  have M3 := Lib.hid (show es.length + esx.length ≤ maxLen by have := Hki.out; have := KL.out; unfold maxLen; omega)
                  have M4 := Lib.hid (show (es.length + esx.length) * 64 ≤ 140737488355328 by have := Hki.out; have := KL.out; omega)
                  go_wp2_with (at_builtin; refine wpList_append_row w5 rfl (.tmp 117) (.tmp 119) 23 rfl (D + 1) 58 i0 _ 5 64 Try.underlying23 hi0 hz0 hz1 hz2 rfl (by decide) (.slice A es.length c) es.length (elCells es) rfl HROW.out (.slice A2 esx.length c2) esx.length (elCells esx) rfl (SrcRow.own HRX.out) H1X.out M3.out M4.out (by first | omega | (simp; omega)) ?_; intro v1 w6 ho6 hg6 hat6; obtain ⟨A1, c1, rfl⟩ := own_form ho6; have HO6 := Lib.hid ho6; have HG6 := Lib.hid hg6; have HAT6 := Lib.hid hat6; clear ho6 hg6 hat6; have hgr := Upd.grown (Upd.refl (fun b => (Value.slice A es.length c).ownBlock = some b) w5) HG6.out (fun b hb _ => hb); have hD6 := hgr.heap (k := D) (by exact HC5.out.box) (fun e => by have := HVB.out _ e; omega); have hH6 := hgr.heap (k := w.heap.size) (by exact HC5.out.out) (fun e => by have := HVB.out _ e; omega); have hR6 := hgr.heap (k := rb) (by exact HP5.out) (fun e => by have := HVB.out _ e; omega); have hX6 := hgr.heap (k := w3.heap.size) (by exact HX5.out) (fun e => by have := HVB.out _ e; omega); obtain ⟨⟨f0, f1, f2, f3, f4⟩, ff⟩ := blk5 hX6; clear hX6; have HGR := Lib.hid hgr; have HD6 := Lib.hid hD6; have HH6 := Lib.hid hH6; have HR6 := Lib.hid hR6; obtain ⟨⟨d0, d1, d2, d3, d4⟩, df⟩ := blk5 hD6; obtain ⟨⟨e0, e1, e2, e3, e4⟩, ef⟩ := blk5 hH6; obtain ⟨r0, r1, r2, r3, r4, rf0, rf1, rf2, rf3, rf4⟩ := rblk hR6; have hlt6 := (Array.getElem?_eq_some_iff.1 hD6).1; clear hgr hD6 hH6 hR6)
                  go_wp2_with fail
                  obtain ⟨bs', hc7, hm7, hu7⟩ := RCore.grow (w3 := w5) (w3' := w5) (es2 := esx) HC2.out rfl HKS.out HU5.out HKX.out (List.nodup_append.1 HN3.out).2.1 (Upd.refl _ _) HO6.out HG6.out HAT6.out
                  have hc8 := hc7.setDot xdot
                  have hu8 := hu7.set (b := D) (i := 4) (.inl rfl) (.bool xdot)
                  have hnr : ¬ (rb = D ∨ (Value.slice A es.length c).ownBlock = some rb) := by rintro (e | e); omega; have := HVB.out _ e; omega
                  have hp8 := hu8.heap HP5.out hnr
                  have hfin := rl_done hc8 hp8 rfl rfl
                  simp only [List.length_append, List.length_map, List.length_singleton, List.map_cons, List.map_nil] at hfin
                  refine bodyPost_ret (results_cell1 rfl _ _ w.heap.size 58 #[_, _, _, _, _] _ rfl (by exact bset5 (bother (bother (hc8.out) (by omega) _) (by omega) _)) Try.underlying58 rfl size58) rfl ?_
                  have hjd : joinD (es.map El.d) (.mk xk xn xt (esx.map El.d) xdot) = lst (es.map El.d ++ esx.map El.d) xdot := by rw [joinD]; exact if_pos HK5.out
                  show RDOk _ _ _ _ _ (joinD _ _) _ _ _ _ _
                  rw [hjd]
                  exact hfin
                · skip
                  have HK5 := Lib.hid hk5
                  have hk6 : (x.k == 5) = false := by simpa using hk5
                  clear hk5
                  obtain ⟨es, hes, hbs, hrow, hks, h1⟩ := HC2.out.own.es
                  subst hes
                  simp only [List.length_map] at *
                  subst hbs
                  have HVB := Lib.hid (show ∀ q, (Value.slice A es.length c).ownBlock = some q → D + 1 ≤ q ∧ q < w2.heap.size from fun q hq => own_lt hrow q hq)
                  have HROW := Lib.hid (HU5.out.ownsRow hrow (fun q hq e => by have := own_lt hrow q hq; omega))
                  have HKS := Lib.hid hks
                  obtain ⟨⟨b0, b1, b2, b3, b4⟩, bf⟩ := blk5 HC5.out.box
                  obtain ⟨⟨x0, x1, x2, x3, x4⟩, xf⟩ := blk5 HX5.out
                  rw [List.length_map] at b3
                  have hD5 := HC5.out.lt
                  have hH5 : w.heap.size < w5.heap.size := by omega
                  have hrb5 : rb < w5.heap.size := by omega
                  clear hrow hks h1
                  have M3 := Lib.hid (show es.length + 1 ≤ maxLen by have := Hki.out; unfold maxLen; omega)
                  have M4 := Lib.hid (show (es.length + 1) * 64 ≤ 140737488355328 by have := Hki.out; omega)
                  go_wp2_with (at_builtin; refine wpList_append_row (w5.alloc (.cells #[.int .u8 x.k, .int .i64 x.n, .string x.t, .slice A2 x.kids.length c2, .bool x.dot] 58)) rfl (.tmp 126) (.tmp 128) 23 rfl (D + 1) 58 i0 _ 5 64 Try.underlying23 hi0 hz0 hz1 hz2 rfl (by decide) (.slice A es.length c) es.length (elCells es) rfl (HROW.out.alloc (.cells #[.int .u8 x.k, .int .i64 x.n, .string x.t, .slice A2 x.kids.length c2, .bool x.dot] 58)) (.slice (some ⟨w5.heap.size, 0, none⟩) 1 1) 1 (elCells [⟨x, .slice A2 x.kids.length c2, bs2⟩]) rfl (.inr ⟨w5.heap.size, 1, rfl, rfl, World.news_of_block (heap_alloc_new w5 (.cells #[.int .u8 x.k, .int .i64 x.n, .string x.t, .slice A2 x.kids.length c2, .bool x.dot] 58))⟩) (elCells_one _ (fun e he => by rw [List.mem_singleton.1 he]; exact ⟨_, _, _, rfl⟩)) M3.out M4.out (by first | omega | (simp; omega)) ?_; intro v1 w6 ho6 hg6 hat6; obtain ⟨A1, c1, rfl⟩ := own_form ho6; have HO6 := Lib.hid ho6; have HG6 := Lib.hid hg6; have HAT6 := Lib.hid hat6; clear ho6 hg6 hat6; have hgr := Upd.grown (Upd.refl (fun b => (Value.slice A es.length c).ownBlock = some b) (w5.alloc (.cells #[.int .u8 x.k, .int .i64 x.n, .string x.t, .slice A2 x.kids.length c2, .bool x.dot] 58))) HG6.out (fun b hb _ => hb); have hD6 := hgr.heap (k := D) (by exact halloc HC5.out.box (.cells #[.int .u8 x.k, .int .i64 x.n, .string x.t, .slice A2 x.kids.length c2, .bool x.dot] 58)) (fun e => by have := HVB.out _ e; omega); have hH6 := hgr.heap (k := w.heap.size) (by exact halloc HC5.out.out (.cells #[.int .u8 x.k, .int .i64 x.n, .string x.t, .slice A2 x.kids.length c2, .bool x.dot] 58)) (fun e => by have := HVB.out _ e; omega); have hR6 := hgr.heap (k := rb) (by exact halloc HP5.out (.cells #[.int .u8 x.k, .int .i64 x.n, .string x.t, .slice A2 x.kids.length c2, .bool x.dot] 58)) (fun e => by have := HVB.out _ e; omega); have HGR := Lib.hid hgr; have HD6 := Lib.hid hD6; have HH6 := Lib.hid hH6; have HR6 := Lib.hid hR6; obtain ⟨⟨d0, d1, d2, d3, d4⟩, df⟩ := blk5 hD6; obtain ⟨⟨e0, e1, e2, e3, e4⟩, ef⟩ := blk5 hH6; obtain ⟨r0, r1, r2, r3, r4, rf0, rf1, rf2, rf3, rf4⟩ := rblk hR6; have hlt6 := (Array.getElem?_eq_some_iff.1 hD6).1; clear hgr hD6 hH6 hR6)
                  go_wp2_with fail
                  obtain ⟨bs', hc7, hm7, hu7⟩ := RCore.grow (w3 := w5) (w3' := w5.alloc (.cells #[.int .u8 x.k, .int .i64 x.n, .string x.t, .slice A2 x.kids.length c2, .bool x.dot] 58)) (es2 := [⟨x, .slice A2 x.kids.length c2, bs2⟩]) HC2.out rfl HKS.out HU5.out (fun e he => by rw [List.mem_singleton.1 he]; exact HO5.out) (by simpa using HN3.out) ((Upd.refl _ w5).alloc _) HO6.out HG6.out HAT6.out
                  have hc8 := hc7.setDot true
                  have hu8 := hu7.set (b := D) (i := 4) (.inl rfl) (.bool true)
                  have hnr : ¬ (rb = D ∨ (Value.slice A es.length c).ownBlock = some rb) := by rintro (e | e); omega; have := HVB.out _ e; omega
                  have hp8 := hu8.heap HP5.out hnr
                  have hfin := rl_done hc8 hp8 rfl rfl
                  simp only [List.length_append, List.length_map, List.length_singleton, List.map_cons, List.map_nil] at hfin
                  refine bodyPost_ret (results_cell1 rfl _ _ w.heap.size 58 #[_, _, _, _, _] _ rfl (by exact bset5 (bother (bother (hc8.out) (by omega) _) (by omega) _)) Try.underlying58 rfl size58) rfl ?_
                  have hjd : joinD (es.map El.d) x = lst (es.map El.d ++ [x]) true := by rw [joinD]; exact if_neg HK5.out
                  show RDOk _ _ _ _ _ (joinD _ _) _ _ _ _ _
                  rw [hjd]
                  exact hfin
              · have hb5 : (tokK L j != 2) = true := by simpa using h5
                have hrr := HR0'.out x j k hrd h5
                subst hrr
                clear h5
                go_quiet (fail)
                go_wp2_with fail
                refine (rfail_bad L _ rb tg tc j _ _ 60 (((Upd.refl (fun _ => False) w4).drewN nq).heap HPW.out (fun x => x)) (HCW.out.new ((Upd.refl (fun _ => False) w4).drewN nq)).toks HBB.out.2.1 hl hne).mono ?_
                rintro e w5 ⟨rfl, ge, hge, hp5, he5, hu5⟩
                have hge4 : w4.heap.size ≤ ge := hge
                clear hge
                have hq : Upd (fun b => b = rb) w4 w5 := ((Upd.refl (fun _ => False) w4).drewN nq).par.trans hu5
                have hcW := HCW.out.to hq
                have hxW := hq.heap HXW.out (by omega)
                have huW := HUW.out.trans hq
                have hoW := HOW.out.upd hq (fun b hb e => by have := (HOW.out.blocks b hb).1; omega)
                have hsW := hq.size
                have hX : w3.heap.size < w5.heap.size := by omega
                have hpW := hp5
                have GE := Lib.hid he5
                have GL := Lib.hid (Array.getElem?_eq_some_iff.1 he5).1
                have GH := Lib.hid (show w.heap.size < ge by omega)
                have GD := Lib.hid (show ge ≠ D by omega)
                have GN := Lib.hid (fun hx => by have := (HC2.out.own.blocks ge hx).2; omega : ge ∉ bs)
                have GX := Lib.hid (fun hx => by have := (HW3.out.blocks ge hx).2; omega : ge ∉ bs2)
                have GK := Lib.hid (show kids.length + x.kids.length + 1 + s0 ≤ L.length by have := HBB.out; have := HR.out.len; omega)
                clear hp5 he5 hu5
                clear z0 z1 z2 z3 z4 zf0 zf1 zf2 zf3 zf4 t0 t1 t2 t3 hb5
                have HC5 := Lib.hid hcW
                have HX5 := Lib.hid hxW
                have HU5 := Lib.hid huW
                have HO5 := Lib.hid hoW
                have HP5 := Lib.hid hpW
                clear hcW hxW huW hoW hpW hq hsW
                by_cases hk5 : x.k = 5
                · skip
                  have HK5 := Lib.hid hk5
                  have hk6 : (x.k == 5) = true := by simpa using hk5
                  clear hk5
                  obtain ⟨es, hes, hbs, hrow, hks, h1⟩ := HC2.out.own.es
                  subst hes
                  simp only [List.length_map] at *
                  subst hbs
                  have HVB := Lib.hid (show ∀ q, (Value.slice A es.length c).ownBlock = some q → D + 1 ≤ q ∧ q < w2.heap.size from fun q hq => own_lt hrow q hq)
                  have HROW := Lib.hid (HU5.out.ownsRow hrow (fun q hq e => by have := own_lt hrow q hq; omega))
                  have HKS := Lib.hid hks
                  obtain ⟨⟨b0, b1, b2, b3, b4⟩, bf⟩ := blk5 HC5.out.box
                  obtain ⟨⟨x0, x1, x2, x3, x4⟩, xf⟩ := blk5 HX5.out
                  rw [List.length_map] at b3
                  have hD5 := HC5.out.lt
                  have hH5 : w.heap.size < w5.heap.size := by omega
                  have hrb5 : rb < w5.heap.size := by omega
                  clear hrow hks h1
                  obtain ⟨xk, xn, xt, xkids, xdot⟩ := x
                  simp only [Dat.kids, Dat.dot, Dat.k, Dat.n, Dat.t] at *
                  obtain ⟨esx, hxe, hbsx, hrx, hksx, h1x⟩ := HO5.out.es
                  subst hxe hbsx
                  simp only [List.length_map] at *
                  have HRX := Lib.hid hrx
                  have HKX := Lib.hid hksx
                  have H1X := Lib.hid h1x
                  clear hrx hksx h1x
                  have M3 := Lib.hid (show es.length + esx.length ≤ maxLen by have := Hki.out; have := KL.out; unfold maxLen; omega)
                  have M4 := Lib.hid (show (es.length + esx.length) * 64 ≤ 140737488355328 by have := Hki.out; have := KL.out; omega)
                  go_wp2_with (at_builtin; refine wpList_append_row w5 rfl (.tmp 117) (.tmp 119) 23 rfl (D + 1) 58 i0 _ 5 64 Try.underlying23 hi0 hz0 hz1 hz2 rfl (by decide) (.slice A es.length c) es.length (elCells es) rfl HROW.out (.slice A2 esx.length c2) esx.length (elCells esx) rfl (SrcRow.own HRX.out) H1X.out M3.out M4.out (by first | omega | (simp; omega)) ?_; intro v1 w6 ho6 hg6 hat6; obtain ⟨A1, c1, rfl⟩ := own_form ho6; have HO6 := Lib.hid ho6; have HG6 := Lib.hid hg6; have HAT6 := Lib.hid hat6; clear ho6 hg6 hat6; have hgr := Upd.grown (Upd.refl (fun b => (Value.slice A es.length c).ownBlock = some b) w5) HG6.out (fun b hb _ => hb); have hD6 := hgr.heap (k := D) (by exact HC5.out.box) (fun e => by have := HVB.out _ e; omega); have hH6 := hgr.heap (k := w.heap.size) (by exact HC5.out.out) (fun e => by have := HVB.out _ e; omega); have hR6 := hgr.heap (k := rb) (by exact HP5.out) (fun e => by have := HVB.out _ e; omega); have hX6 := hgr.heap (k := w3.heap.size) (by exact HX5.out) (fun e => by have := HVB.out _ e; omega); obtain ⟨⟨f0, f1, f2, f3, f4⟩, ff⟩ := blk5 hX6; clear hX6; have HGR := Lib.hid hgr; have HD6 := Lib.hid hD6; have HH6 := Lib.hid hH6; have HR6 := Lib.hid hR6; obtain ⟨⟨d0, d1, d2, d3, d4⟩, df⟩ := blk5 hD6; obtain ⟨⟨e0, e1, e2, e3, e4⟩, ef⟩ := blk5 hH6; obtain ⟨r0, r1, r2, r3, r4, rf0, rf1, rf2, rf3, rf4⟩ := rblk hR6; have hlt6 := (Array.getElem?_eq_some_iff.1 hD6).1; clear hgr hD6 hH6 hR6)
                  go_wp2_with fail
                  obtain ⟨bs', hc7, hm7, hu7⟩ := RCore.grow (w3 := w5) (w3' := w5) (es2 := esx) HC2.out rfl HKS.out HU5.out HKX.out (List.nodup_append.1 HN3.out).2.1 (Upd.refl _ _) HO6.out HG6.out HAT6.out
                  have hc8 := hc7.setDot xdot
                  have hu8 := hu7.set (b := D) (i := 4) (.inl rfl) (.bool xdot)
                  have hnr : ¬ (rb = D ∨ (Value.slice A es.length c).ownBlock = some rb) := by rintro (e | e); omega; have := HVB.out _ e; omega
                  have hp8 := hu8.heap HP5.out hnr
                  have hng : ¬ (ge = D ∨ (Value.slice A es.length c).ownBlock = some ge) := by rintro (e | e); exact GD.out e; exact GN.out (List.mem_append.2 (.inl (by rw [e]; simp)))
                  have hgn8 : ge ∉ bs' := fun e => by rcases hm7 _ e with h | h | h; exact GN.out h; exact GX.out (List.mem_append.2 (.inr h)); have := GL.out; omega
                  have hfin := rl_bad (at_ := s0) (y1 := (j : Int) + 1) (y2 := (o : Int)) hc8 ⟨hp8, hu8.heap GE.out hng, GH.out, GD.out, hgn8⟩ (by have := GK.out; simp only [List.length_append, List.length_map, List.length_singleton, List.length_cons, List.length_nil]; omega)
                  simp only [List.length_append, List.length_map, List.length_singleton, List.map_cons, List.map_nil] at hfin
                  refine bodyPost_ret (results_cell1 rfl _ _ w.heap.size 58 #[_, _, _, _, _] _ rfl (by exact bset5 (bother (bother (hc8.out) (by omega) _) (by omega) _)) Try.underlying58 rfl size58) rfl ?_
                  exact hfin
                · skip
                  have HK5 := Lib.hid hk5
                  have hk6 : (x.k == 5) = false := by simpa using hk5
                  clear hk5
                  obtain ⟨es, hes, hbs, hrow, hks, h1⟩ := HC2.out.own.es
                  subst hes
                  simp only [List.length_map] at *
                  subst hbs
                  have HVB := Lib.hid (show ∀ q, (Value.slice A es.length c).ownBlock = some q → D + 1 ≤ q ∧ q < w2.heap.size from fun q hq => own_lt hrow q hq)
                  have HROW := Lib.hid (HU5.out.ownsRow hrow (fun q hq e => by have := own_lt hrow q hq; omega))
                  have HKS := Lib.hid hks
                  obtain ⟨⟨b0, b1, b2, b3, b4⟩, bf⟩ := blk5 HC5.out.box
                  obtain ⟨⟨x0, x1, x2, x3, x4⟩, xf⟩ := blk5 HX5.out
                  rw [List.length_map] at b3
                  have hD5 := HC5.out.lt
                  have hH5 : w.heap.size < w5.heap.size := by omega
                  have hrb5 : rb < w5.heap.size := by omega
                  clear hrow hks h1
                  have M3 := Lib.hid (show es.length + 1 ≤ maxLen by have := Hki.out; unfold maxLen; omega)
                  have M4 := Lib.hid (show (es.length + 1) * 64 ≤ 140737488355328 by have := Hki.out; omega)
                  go_wp2_with (at_builtin; refine wpList_append_row (w5.alloc (.cells #[.int .u8 x.k, .int .i64 x.n, .string x.t, .slice A2 x.kids.length c2, .bool x.dot] 58)) rfl (.tmp 126) (.tmp 128) 23 rfl (D + 1) 58 i0 _ 5 64 Try.underlying23 hi0 hz0 hz1 hz2 rfl (by decide) (.slice A es.length c) es.length (elCells es) rfl (HROW.out.alloc (.cells #[.int .u8 x.k, .int .i64 x.n, .string x.t, .slice A2 x.kids.length c2, .bool x.dot] 58)) (.slice (some ⟨w5.heap.size, 0, none⟩) 1 1) 1 (elCells [⟨x, .slice A2 x.kids.length c2, bs2⟩]) rfl (.inr ⟨w5.heap.size, 1, rfl, rfl, World.news_of_block (heap_alloc_new w5 (.cells #[.int .u8 x.k, .int .i64 x.n, .string x.t, .slice A2 x.kids.length c2, .bool x.dot] 58))⟩) (elCells_one _ (fun e he => by rw [List.mem_singleton.1 he]; exact ⟨_, _, _, rfl⟩)) M3.out M4.out (by first | omega | (simp; omega)) ?_; intro v1 w6 ho6 hg6 hat6; obtain ⟨A1, c1, rfl⟩ := own_form ho6; have HO6 := Lib.hid ho6; have HG6 := Lib.hid hg6; have HAT6 := Lib.hid hat6; clear ho6 hg6 hat6; have hgr := Upd.grown (Upd.refl (fun b => (Value.slice A es.length c).ownBlock = some b) (w5.alloc (.cells #[.int .u8 x.k, .int .i64 x.n, .string x.t, .slice A2 x.kids.length c2, .bool x.dot] 58))) HG6.out (fun b hb _ => hb); have hD6 := hgr.heap (k := D) (by exact halloc HC5.out.box (.cells #[.int .u8 x.k, .int .i64 x.n, .string x.t, .slice A2 x.kids.length c2, .bool x.dot] 58)) (fun e => by have := HVB.out _ e; omega); have hH6 := hgr.heap (k := w.heap.size) (by exact halloc HC5.out.out (.cells #[.int .u8 x.k, .int .i64 x.n, .string x.t, .slice A2 x.kids.length c2, .bool x.dot] 58)) (fun e => by have := HVB.out _ e; omega); have hR6 := hgr.heap (k := rb) (by exact halloc HP5.out (.cells #[.int .u8 x.k, .int .i64 x.n, .string x.t, .slice A2 x.kids.length c2, .bool x.dot] 58)) (fun e => by have := HVB.out _ e; omega); have HGR := Lib.hid hgr; have HD6 := Lib.hid hD6; have HH6 := Lib.hid hH6; have HR6 := Lib.hid hR6; obtain ⟨⟨d0, d1, d2, d3, d4⟩, df⟩ := blk5 hD6; obtain ⟨⟨e0, e1, e2, e3, e4⟩, ef⟩ := blk5 hH6; obtain ⟨r0, r1, r2, r3, r4, rf0, rf1, rf2, rf3, rf4⟩ := rblk hR6; have hlt6 := (Array.getElem?_eq_some_iff.1 hD6).1; clear hgr hD6 hH6 hR6)
                  go_wp2_with fail
                  obtain ⟨bs', hc7, hm7, hu7⟩ := RCore.grow (w3 := w5) (w3' := w5.alloc (.cells #[.int .u8 x.k, .int .i64 x.n, .string x.t, .slice A2 x.kids.length c2, .bool x.dot] 58)) (es2 := [⟨x, .slice A2 x.kids.length c2, bs2⟩]) HC2.out rfl HKS.out HU5.out (fun e he => by rw [List.mem_singleton.1 he]; exact HO5.out) (by simpa using HN3.out) ((Upd.refl _ w5).alloc _) HO6.out HG6.out HAT6.out
                  have hc8 := hc7.setDot true
                  have hu8 := hu7.set (b := D) (i := 4) (.inl rfl) (.bool true)
                  have hnr : ¬ (rb = D ∨ (Value.slice A es.length c).ownBlock = some rb) := by rintro (e | e); omega; have := HVB.out _ e; omega
                  have hp8 := hu8.heap HP5.out hnr
                  have hng : ¬ (ge = D ∨ (Value.slice A es.length c).ownBlock = some ge) := by rintro (e | e); exact GD.out e; exact GN.out (List.mem_append.2 (.inl (by rw [e]; simp)))
                  have hgn8 : ge ∉ bs' := fun e => by rcases hm7 _ e with h | h | h; exact GN.out h; exact GX.out (by simpa using h); have := GL.out; omega
                  have hfin := rl_bad (at_ := s0) (y1 := (j : Int) + 1) (y2 := (o : Int)) hc8 ⟨hp8, hu8.heap GE.out hng, GH.out, GD.out, hgn8⟩ (by have := GK.out; simp only [List.length_append, List.length_map, List.length_singleton, List.length_cons, List.length_nil]; omega)
                  simp only [List.length_append, List.length_map, List.length_singleton, List.map_cons, List.map_nil] at hfin
                  refine bodyPost_ret (results_cell1 rfl _ _ w.heap.size 58 #[_, _, _, _, _] _ rfl (by exact bset5 (bother (bother (hc8.out) (by omega) _) (by omega) _)) Try.underlying58 rfl size58) rfl ?_
                  exact hfin
            | bad er ea =>
              have hdd := HD.out w2 HP2.out HC2.out.toks
              rw [hrd] at hdd
              have hrr := HR2'.out er ea hrd
              subst hrr
              refine hdd.mono ?_
              rintro e w3 ⟨x, kv, bs2, s1, s2, s3, ge, rfl, hgs, hp3, hg3, hu3, hw3, hnd3, hgx, hgk⟩
              have GX := Lib.hid hgx
              have KL := Lib.hid (show x.kids.length ≤ 1048577 by omega)
              have GK := Lib.hid (show kids.length + x.kids.length + 1 + s0 ≤ L.length by have := HR.out.len; omega)
              clear hdd hgx hgk
              obtain ⟨A2, c2, rfl, hAA⟩ := hw3.len
              clear hAA
              unfold datV
              have HP3 := Lib.hid hp3
              have HU3 := Lib.hid hu3
              have HW3 := Lib.hid hw3
              have HN3 := Lib.hid hnd3
              have hs3 := hu3.size
              have hD2 := HC2.out.lt
              clear hp3 hu3 hw3 hnd3
              go_wp2_with fail
              have hcore4 := (HC2.out.to HU3.out).new ((Upd.refl (fun _ => False) w3).alloc (.cells #[.int .u8 x.k, .int .i64 x.n, .string x.t, .slice A2 x.kids.length c2, .bool x.dot] 58))
              have hpar4 := halloc HP3.out (.cells #[.int .u8 x.k, .int .i64 x.n, .string x.t, .slice A2 x.kids.length c2, .bool x.dot] 58)
              have hx4 := heap_alloc_new w3 (.cells #[.int .u8 x.k, .int .i64 x.n, .string x.t, .slice A2 x.kids.length c2, .bool x.dot] 58)
              have hu4 := HU3.out.alloc (.cells #[.int .u8 x.k, .int .i64 x.n, .string x.t, .slice A2 x.kids.length c2, .bool x.dot] 58)
              have how4 := HW3.out.alloc (.cells #[.int .u8 x.k, .int .i64 x.n, .string x.t, .slice A2 x.kids.length c2, .bool x.dot] 58)
              have hs4 : (w3.alloc (.cells #[.int .u8 x.k, .int .i64 x.n, .string x.t, .slice A2 x.kids.length c2, .bool x.dot] 58)).heap.size = w3.heap.size + 1 := by simp
              have hg4 := halloc hg3 (.cells #[.int .u8 x.k, .int .i64 x.n, .string x.t, .slice A2 x.kids.length c2, .bool x.dot] 58)
              generalize w3.alloc (.cells #[.int .u8 x.k, .int .i64 x.n, .string x.t, .slice A2 x.kids.length c2, .bool x.dot] 58) = w4 at *
              have HCW := Lib.hid hcore4
              have HPW := Lib.hid hpar4
              have HXW := Lib.hid hx4
              have HUW := Lib.hid hu4
              have HOW := Lib.hid how4
              clear hcore4 hpar4 hx4 hu4 how4
              obtain ⟨z0, z1, z2, z3, z4, zf0, zf1, zf2, zf3, zf4⟩ := rblk HPW.out
              go_quiet (fail)
              have hq : Upd (fun b => b = rb) w4 (w4.drewN nq) := ((Upd.refl (fun _ => False) w4).drewN nq).par
              have hcW := HCW.out.to hq
              have hxW := hq.heap HXW.out (by omega)
              have huW := HUW.out.trans hq
              have hoW := HOW.out.upd hq (fun b hb e => by have := (HOW.out.blocks b hb).1; omega)
              have hsW := hq.size
              have hX : w3.heap.size < (w4.drewN nq).heap.size := by omega
              have hpW := ((Upd.refl (fun _ => False) w4).drewN nq).heap HPW.out (fun x => x)
              have hgW := ((Upd.refl (fun _ => False) w4).drewN nq).heap hg4 (fun x => x)
              generalize w4.drewN nq = w5 at *
              clear z0 z1 z2 z3 z4 zf0 zf1 zf2 zf3 zf4 hg4 hg3
              have GE := Lib.hid hgW
              have GL := Lib.hid (Array.getElem?_eq_some_iff.1 hgW).1
              have GH := Lib.hid (show w.heap.size < ge by omega)
              have GD := Lib.hid (show ge ≠ D by omega)
              have GN := Lib.hid (fun hx => by have := (HC2.out.own.blocks ge hx).2; omega : ge ∉ bs)
              clear hgW hgs
              have HC5 := Lib.hid hcW
              have HX5 := Lib.hid hxW
              have HU5 := Lib.hid huW
              have HO5 := Lib.hid hoW
              have HP5 := Lib.hid hpW
              clear hcW hxW huW hoW hpW hq hsW
              by_cases hk5 : x.k = 5
              · skip
                have HK5 := Lib.hid hk5
                have hk6 : (x.k == 5) = true := by simpa using hk5
                clear hk5
                obtain ⟨es, hes, hbs, hrow, hks, h1⟩ := HC2.out.own.es
                subst hes
                simp only [List.length_map] at *
                subst hbs
                have HVB := Lib.hid (show ∀ q, (Value.slice A es.length c).ownBlock = some q → D + 1 ≤ q ∧ q < w2.heap.size from fun q hq => own_lt hrow q hq)
                have HROW := Lib.hid (HU5.out.ownsRow hrow (fun q hq e => by have := own_lt hrow q hq; omega))
                have HKS := Lib.hid hks
                obtain ⟨⟨b0, b1, b2, b3, b4⟩, bf⟩ := blk5 HC5.out.box
                obtain ⟨⟨x0, x1, x2, x3, x4⟩, xf⟩ := blk5 HX5.out
                rw [List.length_map] at b3
                have hD5 := HC5.out.lt
                have hH5 : w.heap.size < w5.heap.size := by omega
                have hrb5 : rb < w5.heap.size := by omega
                clear hrow hks h1
                obtain ⟨xk, xn, xt, xkids, xdot⟩ := x
                simp only [Dat.kids, Dat.dot, Dat.k, Dat.n, Dat.t] at *
                obtain ⟨esx, hxe, hbsx, hrx, hksx, h1x⟩ := HO5.out.es
                subst hxe hbsx
                simp only [List.length_map] at *
                have HRX := Lib.hid hrx
                have HKX := Lib.hid hksx
                have H1X := Lib.hid h1x
                clear hrx hksx h1x
                have M3 := Lib.hid (show es.length + esx.length ≤ maxLen by have := Hki.out; have := KL.out; unfold maxLen; omega)
                have M4 := Lib.hid (show (es.length + esx.length) * 64 ≤ 140737488355328 by have := Hki.out; have := KL.out; omega)
                go_wp2_with (at_builtin; refine wpList_append_row w5 rfl (.tmp 117) (.tmp 119) 23 rfl (D + 1) 58 i0 _ 5 64 Try.underlying23 hi0 hz0 hz1 hz2 rfl (by decide) (.slice A es.length c) es.length (elCells es) rfl HROW.out (.slice A2 esx.length c2) esx.length (elCells esx) rfl (SrcRow.own HRX.out) H1X.out M3.out M4.out (by first | omega | (simp; omega)) ?_; intro v1 w6 ho6 hg6 hat6; obtain ⟨A1, c1, rfl⟩ := own_form ho6; have HO6 := Lib.hid ho6; have HG6 := Lib.hid hg6; have HAT6 := Lib.hid hat6; clear ho6 hg6 hat6; have hgr := Upd.grown (Upd.refl (fun b => (Value.slice A es.length c).ownBlock = some b) w5) HG6.out (fun b hb _ => hb); have hD6 := hgr.heap (k := D) (by exact HC5.out.box) (fun e => by have := HVB.out _ e; omega); have hH6 := hgr.heap (k := w.heap.size) (by exact HC5.out.out) (fun e => by have := HVB.out _ e; omega); have hR6 := hgr.heap (k := rb) (by exact HP5.out) (fun e => by have := HVB.out _ e; omega); have hX6 := hgr.heap (k := w3.heap.size) (by exact HX5.out) (fun e => by have := HVB.out _ e; omega); obtain ⟨⟨f0, f1, f2, f3, f4⟩, ff⟩ := blk5 hX6; clear hX6; have HGR := Lib.hid hgr; have HD6 := Lib.hid hD6; have HH6 := Lib.hid hH6; have HR6 := Lib.hid hR6; obtain ⟨⟨d0, d1, d2, d3, d4⟩, df⟩ := blk5 hD6; obtain ⟨⟨e0, e1, e2, e3, e4⟩, ef⟩ := blk5 hH6; obtain ⟨r0, r1, r2, r3, r4, rf0, rf1, rf2, rf3, rf4⟩ := rblk hR6; have hlt6 := (Array.getElem?_eq_some_iff.1 hD6).1; clear hgr hD6 hH6 hR6)
                go_wp2_with fail
                obtain ⟨bs', hc7, hm7, hu7⟩ := RCore.grow (w3 := w5) (w3' := w5) (es2 := esx) HC2.out rfl HKS.out HU5.out HKX.out (List.nodup_append.1 HN3.out).2.1 (Upd.refl _ _) HO6.out HG6.out HAT6.out
                have hc8 := hc7.setDot xdot
                have hu8 := hu7.set (b := D) (i := 4) (.inl rfl) (.bool xdot)
                have hnr : ¬ (rb = D ∨ (Value.slice A es.length c).ownBlock = some rb) := by rintro (e | e); omega; have := HVB.out _ e; omega
                have hp8 := hu8.heap HP5.out hnr
                have hng : ¬ (ge = D ∨ (Value.slice A es.length c).ownBlock = some ge) := by rintro (e | e); exact GD.out e; exact GN.out (List.mem_append.2 (.inl (by rw [e]; simp)))
                have hgn8 : ge ∉ bs' := fun e => by rcases hm7 _ e with h | h | h; exact GN.out h; exact GX.out (List.mem_append.2 (.inr h)); have := GL.out; omega
                have hfin := rl_bad (at_ := s0) (y1 := wrap64 (s1 + 1)) (y2 := wrap64 (s2 - 1)) hc8 ⟨hp8, hu8.heap GE.out hng, GH.out, GD.out, hgn8⟩ (by have := GK.out; simp only [List.length_append, List.length_map, List.length_singleton, List.length_cons, List.length_nil]; omega)
                simp only [List.length_append, List.length_map, List.length_singleton, List.map_cons, List.map_nil] at hfin
                refine bodyPost_ret (results_cell1 rfl _ _ w.heap.size 58 #[_, _, _, _, _] _ rfl (by exact bset5 (bother (bother (hc8.out) (by omega) _) (by omega) _)) Try.underlying58 rfl size58) rfl ?_
                exact hfin
              · skip
                have HK5 := Lib.hid hk5
                have hk6 : (x.k == 5) = false := by simpa using hk5
                clear hk5
                obtain ⟨es, hes, hbs, hrow, hks, h1⟩ := HC2.out.own.es
                subst hes
                simp only [List.length_map] at *
                subst hbs
                have HVB := Lib.hid (show ∀ q, (Value.slice A es.length c).ownBlock = some q → D + 1 ≤ q ∧ q < w2.heap.size from fun q hq => own_lt hrow q hq)
                have HROW := Lib.hid (HU5.out.ownsRow hrow (fun q hq e => by have := own_lt hrow q hq; omega))
                have HKS := Lib.hid hks
                obtain ⟨⟨b0, b1, b2, b3, b4⟩, bf⟩ := blk5 HC5.out.box
                obtain ⟨⟨x0, x1, x2, x3, x4⟩, xf⟩ := blk5 HX5.out
                rw [List.length_map] at b3
                have hD5 := HC5.out.lt
                have hH5 : w.heap.size < w5.heap.size := by omega
                have hrb5 : rb < w5.heap.size := by omega
                clear hrow hks h1
                have M3 := Lib.hid (show es.length + 1 ≤ maxLen by have := Hki.out; unfold maxLen; omega)
                have M4 := Lib.hid (show (es.length + 1) * 64 ≤ 140737488355328 by have := Hki.out; omega)
                go_wp2_with (at_builtin; refine wpList_append_row (w5.alloc (.cells #[.int .u8 x.k, .int .i64 x.n, .string x.t, .slice A2 x.kids.length c2, .bool x.dot] 58)) rfl (.tmp 126) (.tmp 128) 23 rfl (D + 1) 58 i0 _ 5 64 Try.underlying23 hi0 hz0 hz1 hz2 rfl (by decide) (.slice A es.length c) es.length (elCells es) rfl (HROW.out.alloc (.cells #[.int .u8 x.k, .int .i64 x.n, .string x.t, .slice A2 x.kids.length c2, .bool x.dot] 58)) (.slice (some ⟨w5.heap.size, 0, none⟩) 1 1) 1 (elCells [⟨x, .slice A2 x.kids.length c2, bs2⟩]) rfl (.inr ⟨w5.heap.size, 1, rfl, rfl, World.news_of_block (heap_alloc_new w5 (.cells #[.int .u8 x.k, .int .i64 x.n, .string x.t, .slice A2 x.kids.length c2, .bool x.dot] 58))⟩) (elCells_one _ (fun e he => by rw [List.mem_singleton.1 he]; exact ⟨_, _, _, rfl⟩)) M3.out M4.out (by first | omega | (simp; omega)) ?_; intro v1 w6 ho6 hg6 hat6; obtain ⟨A1, c1, rfl⟩ := own_form ho6; have HO6 := Lib.hid ho6; have HG6 := Lib.hid hg6; have HAT6 := Lib.hid hat6; clear ho6 hg6 hat6; have hgr := Upd.grown (Upd.refl (fun b => (Value.slice A es.length c).ownBlock = some b) (w5.alloc (.cells #[.int .u8 x.k, .int .i64 x.n, .string x.t, .slice A2 x.kids.length c2, .bool x.dot] 58))) HG6.out (fun b hb _ => hb); have hD6 := hgr.heap (k := D) (by exact halloc HC5.out.box (.cells #[.int .u8 x.k, .int .i64 x.n, .string x.t, .slice A2 x.kids.length c2, .bool x.dot] 58)) (fun e => by have := HVB.out _ e; omega); have hH6 := hgr.heap (k := w.heap.size) (by exact halloc HC5.out.out (.cells #[.int .u8 x.k, .int .i64 x.n, .string x.t, .slice A2 x.kids.length c2, .bool x.dot] 58)) (fun e => by have := HVB.out _ e; omega); have hR6 := hgr.heap (k := rb) (by exact halloc HP5.out (.cells #[.int .u8 x.k, .int .i64 x.n, .string x.t, .slice A2 x.kids.length c2, .bool x.dot] 58)) (fun e => by have := HVB.out _ e; omega); have HGR := Lib.hid hgr; have HD6 := Lib.hid hD6; have HH6 := Lib.hid hH6; have HR6 := Lib.hid hR6; obtain ⟨⟨d0, d1, d2, d3, d4⟩, df⟩ := blk5 hD6; obtain ⟨⟨e0, e1, e2, e3, e4⟩, ef⟩ := blk5 hH6; obtain ⟨r0, r1, r2, r3, r4, rf0, rf1, rf2, rf3, rf4⟩ := rblk hR6; have hlt6 := (Array.getElem?_eq_some_iff.1 hD6).1; clear hgr hD6 hH6 hR6)
                go_wp2_with fail
                obtain ⟨bs', hc7, hm7, hu7⟩ := RCore.grow (w3 := w5) (w3' := w5.alloc (.cells #[.int .u8 x.k, .int .i64 x.n, .string x.t, .slice A2 x.kids.length c2, .bool x.dot] 58)) (es2 := [⟨x, .slice A2 x.kids.length c2, bs2⟩]) HC2.out rfl HKS.out HU5.out (fun e he => by rw [List.mem_singleton.1 he]; exact HO5.out) (by simpa using HN3.out) ((Upd.refl _ w5).alloc _) HO6.out HG6.out HAT6.out
                have hc8 := hc7.setDot true
                have hu8 := hu7.set (b := D) (i := 4) (.inl rfl) (.bool true)
                have hnr : ¬ (rb = D ∨ (Value.slice A es.length c).ownBlock = some rb) := by rintro (e | e); omega; have := HVB.out _ e; omega
                have hp8 := hu8.heap HP5.out hnr
                have hng : ¬ (ge = D ∨ (Value.slice A es.length c).ownBlock = some ge) := by rintro (e | e); exact GD.out e; exact GN.out (List.mem_append.2 (.inl (by rw [e]; simp)))
                have hgn8 : ge ∉ bs' := fun e => by rcases hm7 _ e with h | h | h; exact GN.out h; exact GX.out (by simpa using h); have := GL.out; omega
                have hfin := rl_bad (at_ := s0) (y1 := wrap64 (s1 + 1)) (y2 := wrap64 (s2 - 1)) hc8 ⟨hp8, hu8.heap GE.out hng, GH.out, GD.out, hgn8⟩ (by have := GK.out; simp only [List.length_append, List.length_map, List.length_singleton, List.length_cons, List.length_nil]; omega)
                simp only [List.length_append, List.length_map, List.length_singleton, List.map_cons, List.map_nil] at hfin
                refine bodyPost_ret (results_cell1 rfl _ _ w.heap.size 58 #[_, _, _, _, _] _ rfl (by exact bset5 (bother (bother (hc8.out) (by omega) _) (by omega) _)) Try.underlying58 rfl size58) rfl ?_
                exact hfin
          case true =>
            have hk0 : kids = [] := by have : (kids.length : Int) = 0 := by simpa using hb
                                       exact List.eq_nil_of_length_eq_zero (by omega)
            subst hk0
            have hrr : r = .bad 60 (tokA L i) := by
              obtain ⟨g', rfl⟩ : ∃ g', g = g' + 1 := ⟨g - 1, by have := HR.out.fuel; have := HR.out.lt; omega⟩
              rw [HR.out.res, pList, if_neg h2, if_neg (by simp), pDat, if_neg (by omega), if_neg (by omega), if_neg (by omega)]
            subst hrr
            clear h2 h4 hb
            go_wp2_with fail
            go_quiet (fail)
            generalize nq = na at *
            go_wp2_with fail
            go_quiet (fail)
            go_wp2_with fail
            refine (rfail_bad L _ rb tg tc i _ _ 60 (((Upd.refl (fun _ => False) wr).drewN (na + nq)).heap HR.out.par (fun x => x)) (HR.out.core.new ((Upd.refl (fun _ => False) wr).drewN (na + nq))).toks HR.out.lt hl hne).mono ?_
            rintro e w5 ⟨rfl, ge, hge, hp5, he5, hu5⟩
            have hge4 : wr.heap.size ≤ ge := hge
            have hcore5 := (HR.out.core.new ((Upd.refl (fun _ => False) wr).drewN (na + nq))).to hu5
            have hgb : ge ∉ bs := fun hx => by have := (HR.out.core.own.blocks ge hx).2; omega
            have HC5 := Lib.hid hcore5
            have HE5 := Lib.hid (show RErr w rb tg L.length tc D 60 (tokA L i) w5 ge _ _ _ bs from ⟨hp5, he5, by omega, by omega, hgb⟩)
            clear hge hge4 hcore5 hp5 he5 hu5 hgb z0 z1 z2 z3 z4 zf0 zf1 zf2 zf3 zf4 a0 a1 a2 a3 a4 af b0 b1 b2 b3 b4 bf t0 t1 t2 t3
            obtain ⟨⟨b0, b1, b2, b3, b4⟩, bf⟩ := blk5 HC5.out.box
            obtain ⟨⟨a0, a1, a2, a3, a4⟩, af⟩ := blk5 HC5.out.out
            go_wp2_with fail
            have hfin := rl_form (at_ := s0) HC5.out HE5.out (by have := HR.out.lt; have := HR.out.len; simp only [List.length_nil]; omega)
            simp only [List.length_nil] at hfin
            refine bodyPost_ret (results_cell1 rfl _ _ w.heap.size 58 #[_, _, _, _, _] _ rfl (by exact bset5 HC5.out.out) Try.underlying58 rfl size58) rfl ?_
            exact hfin
        · skip
          have k2 : (tokK L i != 2) = true := by simpa using h2
          have k4 : (tokK L i != 4) = true := by simpa using h4
          have h4' : ¬ (0 < kids.length ∧ tokK L i = 4) := fun h => h4 h.2
          have hr1 : ∀ x j k, pDat L g i (o + 1) m = .ok x j k → r = pList L g j (o + 1) k (kids ++ [x]) := fun x j k h => by rw [HR.out.res, pList, if_neg h2, if_neg h4', h]
          have hr2 : ∀ e a, pDat L g i (o + 1) m = .bad e a → r = .bad e a := fun e a h => by rw [HR.out.res, pList, if_neg h2, if_neg h4', h]
          have hfn := ((p_fuel L hL g).1 i (o + 1) m HR.out.lt (by have := HR.out.fuel; omega)).1
          have hoo : o + 1 ≤ 100 := HR.out.opn
          have hd := fun w3 (hp : RPar w3 rb tg L.length tc i (o + 1 : Nat) m (.pointer none)) (ht : Toks w3 tg L) => HI.out g (by omega) w3 i (o + 1) m hp ht HR.out.lt (by have := HR.out.fuel; omega) HR.out.many hoo
          have hbd := fun d j k => (p_bounds L hL g).1 i (o + 1) m d j k HR.out.lt
          have hki : kids.length ≤ L.length := by have := HR.out.len; have := HR.out.lt; omega
          have Hbd := Lib.hid hbd
          generalize pDat L g i (o + 1) m = rd at *
          have HD := Lib.hid hd
          have HR1' := Lib.hid hr1
          have HR2' := Lib.hid hr2
          have HFN := Lib.hid hfn
          have Hki := Lib.hid hki
          clear h2 h4 h4' hd hbd hr1 hr2 hki hfn
          go_wp2_with fail
          go_quiet (fail)
          go_wp2_with fail
          have hcore2 := HR.out.core.new ((Upd.refl (fun _ => False) wr).drewN nq)
          have hpar2 := ((Upd.refl (fun _ => False) wr).drewN nq).heap HR.out.par (fun x => x)
          generalize wr.drewN nq = w2 at *
          have HC2 := Lib.hid hcore2
          have HP2 := Lib.hid hpar2
          clear hcore2 hpar2 z0 z1 z2 z3 z4 zf0 zf1 zf2 zf3 zf4 a0 a1 a2 a3 a4 af b0 b1 b2 b3 b4 bf hlt t0 t1 t2 t3 k2 k4
          refine (HD.out w2 HP2.out HC2.out.toks).mono ?_
          rintro e w3 hpost
          obtain ⟨x, kv, bs2, s1, s2, s3, bp', rfl, hp3, hu3, hw3, hnd3, hor3⟩ := RDPost.any hpost HFN.out
          clear hpost
          have HOR := Lib.hid hor3
          clear hor3
          obtain ⟨A2, c2, rfl, hAA⟩ := hw3.len
          clear hAA
          unfold datV
          have HP3 := Lib.hid hp3
          have HU3 := Lib.hid hu3
          have HW3 := Lib.hid hw3
          have HN3 := Lib.hid hnd3
          have hs3 := hu3.size
          have hD2 := HC2.out.lt
          clear hp3 hu3 hw3 hnd3
          obtain ⟨es, hes, hbs, hrow, hks, h1⟩ := HC2.out.own.es
          subst hes
          simp only [List.length_map] at *
          subst hbs
          have HVB := Lib.hid (show ∀ q, (Value.slice A es.length c).ownBlock = some q → D + 1 ≤ q ∧ q < w2.heap.size from fun q hq => own_lt hrow q hq)
          have HROW := Lib.hid (HU3.out.ownsRow hrow (fun q hq e => by have := own_lt hrow q hq; omega))
          have HKS := Lib.hid hks
          have HC3 := Lib.hid (HC2.out.to HU3.out)
          obtain ⟨⟨b0, b1, b2, b3, b4⟩, bf⟩ := blk5 HC3.out.box
          rw [List.length_map] at b3
          have hD3 := HC3.out.lt
          have hH3 : w.heap.size < w3.heap.size := by omega
          have hrb3 : rb < w3.heap.size := by omega
          clear hrow hks h1
          have M3 := Lib.hid (show es.length + 1 ≤ maxLen by have := Hki.out; unfold maxLen; omega)
          have M4 := Lib.hid (show (es.length + 1) * 64 ≤ 140737488355328 by have := Hki.out; omega)
          go_wp2_with (at_builtin; refine wpList_append_row ((w3.alloc (.cells #[.int .u8 x.k, .int .i64 x.n, .string x.t, .slice A2 x.kids.length c2, .bool x.dot] 58)).alloc (.cells #[.int .u8 x.k, .int .i64 x.n, .string x.t, .slice A2 x.kids.length c2, .bool x.dot] 58)) rfl (.tmp 52) (.tmp 54) 23 rfl (D + 1) 58 i0 _ 5 64 Try.underlying23 hi0 hz0 hz1 hz2 rfl (by decide) (.slice A es.length c) es.length (elCells es) rfl ((HROW.out.alloc (.cells #[.int .u8 x.k, .int .i64 x.n, .string x.t, .slice A2 x.kids.length c2, .bool x.dot] 58)).alloc (.cells #[.int .u8 x.k, .int .i64 x.n, .string x.t, .slice A2 x.kids.length c2, .bool x.dot] 58)) (.slice (some ⟨w3.heap.size + 1, 0, none⟩) 1 1) 1 (elCells [⟨x, .slice A2 x.kids.length c2, bs2⟩]) rfl (.inr ⟨w3.heap.size + 1, 1, rfl, rfl, World.news_of_block (alloc2 w3 (.cells #[.int .u8 x.k, .int .i64 x.n, .string x.t, .slice A2 x.kids.length c2, .bool x.dot] 58) (.cells #[.int .u8 x.k, .int .i64 x.n, .string x.t, .slice A2 x.kids.length c2, .bool x.dot] 58))⟩) (elCells_one _ (fun e he => by rw [List.mem_singleton.1 he]; exact ⟨_, _, _, rfl⟩)) M3.out M4.out (by first | omega | (simp; omega)) ?_; intro v1 w6 ho6 hg6 hat6; obtain ⟨A1, c1, rfl⟩ := own_form ho6; have HO6 := Lib.hid ho6; have HG6 := Lib.hid hg6; have HAT6 := Lib.hid hat6; clear ho6 hg6 hat6; have hgr := Upd.grown (Upd.refl (fun b => (Value.slice A es.length c).ownBlock = some b) ((w3.alloc (.cells #[.int .u8 x.k, .int .i64 x.n, .string x.t, .slice A2 x.kids.length c2, .bool x.dot] 58)).alloc (.cells #[.int .u8 x.k, .int .i64 x.n, .string x.t, .slice A2 x.kids.length c2, .bool x.dot] 58))) HG6.out (fun b hb _ => hb); have hD6 := hgr.heap (k := D) (by exact halloc (halloc HC3.out.box (.cells #[.int .u8 x.k, .int .i64 x.n, .string x.t, .slice A2 x.kids.length c2, .bool x.dot] 58)) (.cells #[.int .u8 x.k, .int .i64 x.n, .string x.t, .slice A2 x.kids.length c2, .bool x.dot] 58)) (fun e => by have := HVB.out _ e; omega); have hH6 := hgr.heap (k := w.heap.size) (by exact halloc (halloc HC3.out.out (.cells #[.int .u8 x.k, .int .i64 x.n, .string x.t, .slice A2 x.kids.length c2, .bool x.dot] 58)) (.cells #[.int .u8 x.k, .int .i64 x.n, .string x.t, .slice A2 x.kids.length c2, .bool x.dot] 58)) (fun e => by have := HVB.out _ e; omega); have hR6 := hgr.heap (k := rb) (by exact halloc (halloc HP3.out (.cells #[.int .u8 x.k, .int .i64 x.n, .string x.t, .slice A2 x.kids.length c2, .bool x.dot] 58)) (.cells #[.int .u8 x.k, .int .i64 x.n, .string x.t, .slice A2 x.kids.length c2, .bool x.dot] 58)) (fun e => by have := HVB.out _ e; omega); have HGR := Lib.hid hgr; have HD6 := Lib.hid hD6; have HH6 := Lib.hid hH6; have HR6 := Lib.hid hR6; obtain ⟨⟨d0, d1, d2, d3, d4⟩, df⟩ := blk5 hD6; obtain ⟨⟨e0, e1, e2, e3, e4⟩, ef⟩ := blk5 hH6; have hlt6 := (Array.getElem?_eq_some_iff.1 hD6).1; clear hgr hD6 hH6 hR6)
          go_wp2_with fail
          obtain ⟨bs', hc7, hm7, hu7⟩ := RCore.grow (w3 := w3) (w3' := ((w3.alloc (.cells #[.int .u8 x.k, .int .i64 x.n, .string x.t, .slice A2 x.kids.length c2, .bool x.dot] 58)).alloc (.cells #[.int .u8 x.k, .int .i64 x.n, .string x.t, .slice A2 x.kids.length c2, .bool x.dot] 58))) (es2 := [⟨x, .slice A2 x.kids.length c2, bs2⟩]) HC2.out rfl HKS.out HU3.out (fun e he => by rw [List.mem_singleton.1 he]; exact HW3.out) (by simpa using HN3.out) (((Upd.refl _ w3).alloc _).alloc _) HO6.out HG6.out (by simpa using HAT6.out)
          have hnr : ¬ (rb = D ∨ (Value.slice A es.length c).ownBlock = some rb) := by rintro (e | e); omega; have := HVB.out _ e; omega
          have hp8 := hu7.heap HP3.out hnr
          have hnx : (∃ (i m : Nat) (kids : List Dat) (A : Option Addr) (c : Nat) (bs : List Nat), RGood L w rb tg tc D s0 o r g (w6.setCell ⟨D, 3, none⟩ (.slice A1 (es.length + 1) c1)) i m kids A c bs) ∨
              (∃ (kids : List Dat) (A : Option Addr) (c : Nat) (bs : List Nat) (er : Int) (a g : Nat) (z1 z2 z3 : Int), RLost L w rb tg tc D s0 r (w6.setCell ⟨D, 3, none⟩ (.slice A1 (es.length + 1) c1)) kids A c bs er a g z1 z2 z3) := by
            have hl0 := HR.out.len
            have hl1 := HR.out.lt
            simp only [List.length_map] at hl0
            rcases HOR.out with ⟨j, k, e1, rfl, rfl, rfl, rfl⟩ | ⟨er, ea, ge, e1, rfl, hgs, hg3, hgx, hgk⟩
            · obtain ⟨q1, q2, q3, q4⟩ := Hbd.out x j k e1
              exact .inl ⟨j, k, _, _, _, bs', HR1'.out x j k e1, by have := HR.out.fuel; omega, q2, q4 HR.out.many, HR.out.opn, hp8, hc7, by simp only [List.length_append, List.length_map, List.length_singleton]; omega⟩
            · have hgl := (Array.getElem?_eq_some_iff.1 hg3).1
              have hgn : ge ∉ (Value.slice A es.length c).ownBlock.toList ++ es.flatMap El.bs := fun hx => by have := (HC2.out.own.blocks ge hx).2; omega
              have hng : ¬ (ge = D ∨ (Value.slice A es.length c).ownBlock = some ge) := by rintro (e | e); omega; have := HVB.out _ e; omega
              exact .inr ⟨_, _, _, bs', er, ea, ge, _, _, _, HR2'.out er ea e1, hc7, ⟨hp8, hu7.heap hg3 hng, by omega, by omega, fun e => by rcases hm7 _ e with h | h | h; exact hgn h; exact hgx (by simpa using h); omega⟩, by simp only [List.length_append, List.length_map, List.length_singleton]; omega⟩
          have HNX := Lib.hid hnx
          clear hnx hc7 hm7 hu7 hp8
          go_wp2_with fail
          go_roundg g
          case measure => omega
          case rel => exact ⟨by omega, HNX.out⟩
    · skip
      have HR := Lib.hid hrel
      have hrr := HR.out.res
      subst hrr
      clear hrel
      have hlD := HR.out.core.lD
      obtain ⟨z0, z1, z2, z3, z4, zf0, zf1, zf2, zf3, zf4⟩ := rblk HR.out.err.par
      obtain ⟨⟨b0, b1, b2, b3, b4⟩, bf⟩ := blk5 HR.out.core.box
      obtain ⟨⟨a0, a1, a2, a3, a4⟩, af⟩ := blk5 HR.out.core.out
      have hlt := HR.out.core.lt
      go_wp2_with fail
      go_quiet (fail)
      generalize nq = na at *
      go_wp2_with fail
      go_quiet (fail)
      go_wp2_with fail
      have herr : RErr w rb tg L.length tc D er ea (wr.drewN (na + nq)) g y1 y2 y3 bs := ⟨((Upd.refl (fun _ => False) wr).drewN (na + nq)).heap HR.out.err.par (fun x => x), ((Upd.refl (fun _ => False) wr).drewN (na + nq)).heap HR.out.err.err (fun x => x), HR.out.err.gH, HR.out.err.gD, HR.out.err.gbs⟩
      exact bodyPost_ret (results_cell1 rfl _ _ w.heap.size 58 #[_, _, _, _, _] _ rfl (by exact bset5 (bother (bother HR.out.core.out (by omega) _) (by omega) _)) Try.underlying58 rfl size58) rfl (rl_bad (HR.out.core.new ((Upd.refl (fun _ => False) wr).drewN (na + nq))) herr HR.out.len)
end Go.Proofs.Ytnnjhafjcdjobaa

namespace Go.Proofs.Ytnnjhafjcdjobaa
open Go.RowKit
set_option linter.unusedVariables false
set_option linter.unusedSimpArgs false

theorem rdatum_all (L : List Tok) (hL : EndL L) (hK : ∀ i, i < L.length → 1 ≤ tokK L i ∧ tokK L i ≤ 9) (hl : (L.length : Int) ≤ 1048577) (rb tg tc : Nat) (hne : tg ≠ rb) : ∀ n, RDATUM L rb tg tc n := by
  intro n
  induction n using Nat.strongRecOn with
  | ind n ih =>
    intro w i o m hp ht hi hf hm ho
    have hfine := ((p_fuel L hL n).1 i o m hi hf).1
    obtain ⟨n', rfl⟩ : ∃ n', n = n' + 1 := ⟨n - 1, by omega⟩
    have hlist := rlist_step L hL hl rb tg tc hne n' (fun q hq => ih q (by omega))
    rw [pDat] at hfine ⊢
    by_cases h1 : tokK L i = 1
    · rw [if_pos h1] at hfine ⊢
      have hc : ∀ w, RPar w rb tg L.length tc i o m (.pointer none) → Toks w tg L → Calls Try.prog 96 #[.pointer (some ⟨rb, 0, none⟩)] w (RDPost w rb tg L.length tc i o (openR L n' i o m)) := fun w hp ht =>
        hlist w i o m hp ht hi h1 (by omega) hm ho
      change openR L n' i o m ≠ _ at hfine
      change Calls _ _ _ _ (RDPost w rb tg L.length tc i o (openR L n' i o m))
      cases hr : openR L n' i o m with
      | ok d j k => rw [hr] at hc; exact rdatum_open_ok L w rb tg tc i o m hp ht hi hl hne h1 d j k hc
      | bad e a => rw [hr] at hc; exact rdatum_open_bad L w rb tg tc i o m hp ht hi hl hne h1 e a hc
      | out => rw [hr] at hfine; exact absurd rfl hfine
    · rw [if_neg h1] at hfine ⊢
      by_cases h1' : tokK L i = 3
      · have hi1 := hL.lt hi (by omega)
        rw [if_pos h1'] at hfine ⊢
        by_cases h2 : 100 ≤ o
        · rw [if_pos h2] at hfine ⊢
          have : o = 100 := by omega
          subst this
          exact rdatum_quote_full L w rb tg tc i 100 m hp ht hi hl hne h1' 101 (m + 2 : Nat) 61 (tokA L i) (fun w hp ht => ropens_deep L w rb tg tc i m 2 hp ht hi hl hne (by omega))
        · rw [if_neg h2] at hfine ⊢
          by_cases h3 : 10000 < m + 2
          · rw [if_pos h3] at hfine ⊢
            exact rdatum_quote_full L w rb tg tc i o m hp ht hi hl hne h1' (o + 1 : Nat) (m + 2 : Nat) 62 (tokA L i) (fun w hp ht => ropens_much L w rb tg tc i o m 2 hp ht hi hl hne (by omega) h3 (by omega))
          · rw [if_neg h3] at hfine ⊢
            have hc : ∀ w, RPar w rb tg L.length tc (i + 1 : Nat) (o + 1 : Nat) (m + 2 : Nat) (.pointer none) → Toks w tg L → Calls Try.prog 51 #[.pointer (some ⟨rb, 0, none⟩)] w (RDPost w rb tg L.length tc (i + 1) (o + 1) (pDat L n' (i + 1) (o + 1) (m + 2))) := fun w hp ht =>
              ih n' (by omega) w (i + 1) (o + 1) (m + 2) hp ht hi1 (by omega) (by omega) (by omega)
            cases hr : pDat L n' (i + 1) (o + 1) (m + 2) with
            | ok d j k => rw [hr] at hc; exact rdatum_quote_ok L w rb tg tc i o m hp ht hi hl hne h1' (by omega) (by omega) d j k hc
            | bad e a => rw [hr] at hc; exact rdatum_quote_bad L w rb tg tc i o m hp ht hi hl hne h1' hi1 (by omega) (by omega) e a hc
            | out => rw [hr] at hfine; exact absurd rfl hfine
      · rw [if_neg h1'] at hfine ⊢
        by_cases h2 : 5 ≤ tokK L i ∧ tokK L i ≤ 8
        · rw [if_pos h2] at hfine ⊢
          have hk : tokK L i = 5 ∨ tokK L i = 6 ∨ tokK L i = 7 ∨ tokK L i = 8 := by omega
          by_cases h3 : 10000 < m + 1
          · rw [if_pos h3]
            exact rdatum_leaf_bad L w rb tg tc i o m hp ht hi hl hne h3 hm hk
          · rw [if_neg h3]
            exact rdatum_leaf L w rb tg tc i o m hp ht hi hl (by omega) hk
        · rw [if_neg h2]
          have := hK i hi
          exact rdatum_form L w rb tg tc i o m hp ht hi hl hne (by omega)
end Go.Proofs.Ytnnjhafjcdjobaa
