/- Read: a list. -/
import Derived.Test.YtnnjhafjcdjobaaRdG
import Derived.Deep.LoopGhost
import Derived.RegionDies
import Derived.Deep.RegionLaw
namespace Go.Proofs.Ytnnjhafjcdjobaa
open Go.RowKit
set_option linter.unusedVariables false
set_option linter.unusedSimpArgs false

def DATUM (L : List Tok) (pb tg tc n : Nat) : Prop := ∀ (w : World) (i o m : Nat), Par w pb tg L.length tc i o m → Toks w tg L → i < L.length → 2 * (L.length - i) ≤ n → m ≤ 10000 → o ≤ 100 →
  Calls Try.prog 54 #[.pointer (some ⟨pb, 0, none⟩)] w (DatPost w pb tg L.length tc o (pDat L n i o m))
def LIST (L : List Tok) (pb tg tc n : Nat) : Prop := ∀ (w : World) (i o m : Nat), Par w pb tg L.length tc i o m → Toks w tg L → i < L.length → 2 * (L.length - i) + 1 ≤ n → m ≤ 10000 → o ≤ 100 →
  Calls Try.prog 101 #[.pointer (some ⟨pb, 0, none⟩)] w (DatPost w pb tg L.length tc o (pList L n i o m []))

/-- The state of a list that is being read: H: the result's block; the list's own is the next one. -/
structure Lst (L : List Tok) (w0 : World) (pb tg tc H o : Nat) (r : PR Dat) (gk : Nat) (w : World) (i m : Nat) (kids : List Dat) (A : Option Addr) (c : Nat) (bs : List Nat) : Prop where
  res : r = pList L gk i o m kids
  fuel : 2 * (L.length - i) + 1 ≤ gk
  lt : i < L.length
  many : m ≤ 10000
  par : Par w pb tg L.length tc i o m
  toks : Toks w tg L
  upd : Upd (fun b => b = pb) w0 w
  out : w.heap[H]? = some (.cells #[.int .u8 0, .int .i64 0, .string ⟨#[]⟩, .slice none 0 0, .bool false] 58 (0, 0))
  box : w.heap[H + 1]? = some (.cells #[.int .u8 5, .int .i64 0, .string ⟨#[]⟩, .slice A kids.length c, .bool false] 58 (0, 0))
  own : Own w H (.slice A kids.length c) kids bs
  nodup : bs.Nodup
  ne0 : H ∉ bs
  ne1 : H + 1 ∉ bs
  len : kids.length ≤ i

theorem list_done {w w1 : World} {pb tg tl tc i o m : Nat} {kids : List Dat} {A : Option Addr} {c : Nat} {bs : List Nat} {dot : Bool} (hpar : Par w1 pb tg tl tc i o m) (hupd : Upd (fun b => b = pb) w w1) (hown : Own w1 w.heap.size (.slice A kids.length c) kids bs)
    (hnd : bs.Nodup) (hn0 : w.heap.size ∉ bs) (hpl : pb < w.heap.size) :
    DatOk w pb tg tl tc (lst kids dot) (i + 1) o m (.returned (.agg #[.int .u8 5, .int .i64 0, .string ⟨#[]⟩, .slice A kids.length c, .bool dot]))
      ((((((w1.setCell ⟨pb, 1, none⟩ (.int .i64 ((i : Int) + 1))).setCell ⟨w.heap.size, 0, none⟩ (.int .u8 5)).setCell ⟨w.heap.size, 1, none⟩ (.int .i64 0)).setCell ⟨w.heap.size, 2, none⟩ (.string ⟨#[]⟩)).setCell ⟨w.heap.size, 3, none⟩ (.slice A kids.length c)).setCell ⟨w.heap.size, 4, none⟩ (.bool dot)) := by
  have hpb : pb ∉ bs := fun h => by have := (hown.blocks _ h).1; omega
  exact ⟨_, bs, rfl, bother5 (by omega) ((par_set hpar).1 _), upd5 (Nat.le_refl _) (hupd.set rfl _), (hown.setCell hpb _).set5 hn0, hnd⟩

theorem Lst.new {L : List Tok} {w0 w w' : World} {pb tg tc H o gk i m c : Nat} {r : PR Dat} {kids : List Dat} {A : Option Addr} {bs : List Nat} (h : Lst L w0 pb tg tc H o r gk w i m kids A c bs) (hn : New w w') : Lst L w0 pb tg tc H o r gk w' i m kids A c bs :=
  { h with par := hn.heap h.par (fun x => x), toks := h.toks.new hn, upd := h.upd.trans (Upd.par hn), out := hn.heap h.out (fun x => x), box := hn.heap h.box (fun x => x), own := h.own.upd hn (fun _ _ x => x) }
theorem lst_next {L : List Tok} {w0 w2 w3 w4 : World} {pb tg tc o g i m c c1 c2 j k : Nat} {r : PR Dat} {A A1 A2 : Option Addr} {es : List El} {bs2 : List Nat} {x : Dat}
    (h : Lst L w0 pb tg tc w0.heap.size o r (g + 1) w2 i m (es.map El.d) A c ((Value.slice A es.length c).ownBlock.toList ++ es.flatMap El.bs)) (hks : ∀ e ∈ es, Own w2 w0.heap.size e.kv e.d.kids e.bs)
    (hpl : pb < w0.heap.size) (htl : tg < w0.heap.size) (hne : tg ≠ pb) (hij : i < j) (hj : j < L.length) (hk : k ≤ 10000) (hres : r = pList L g j o k (es.map El.d ++ [x])) (hp : Par w3 pb tg L.length tc j o k) (hu : Upd (fun b => b = pb) w2 w3)
    (hw : Own w3 w2.heap.size (.slice A2 x.kids.length c2) x.kids bs2) (hnd2 : bs2.Nodup) (ob : Obj)
    (ho : w4.ownsRow w0.heap.size 58 5 (.slice A1 (es.length + 1) c1) (es.length + 1) (elCells es ++ elCells [⟨x, .slice A2 x.kids.length c2, bs2⟩])) (hg : (w3.alloc ob).grownBy w4 (Value.slice A es.length c).ownBlock)
    (hat : (Value.slice A1 (es.length + 1) c1).ownBlock = (Value.slice A es.length c).ownBlock ∨ (Value.slice A1 (es.length + 1) c1).ownBlock = some (w3.heap.size + 1)) :
    ∃ bs', Lst L w0 pb tg tc w0.heap.size o r g (w4.setCell ⟨w0.heap.size + 1, 3, none⟩ (.slice A1 (es.length + 1) c1)) j k (es.map El.d ++ [x]) A1 c1 bs' := by
  have hlt := h.own.blocks
  have hvb : ∀ b, (Value.slice A es.length c).ownBlock = some b → w0.heap.size ≤ b ∧ b < w2.heap.size ∧ b ≠ w0.heap.size ∧ b ≠ w0.heap.size + 1 := by
    intro b hb
    have hm : b ∈ (Value.slice A es.length c).ownBlock.toList ++ es.flatMap El.bs := by rw [hb]; simp
    have := hlt b hm
    exact ⟨this.1, this.2, fun e => h.ne0 (by rw [← e]; exact hm), fun e => h.ne1 (by rw [← e]; exact hm)⟩
  have hH2 := (Array.getElem?_eq_some_iff.1 h.box).1
  have hsz := hu.size
  have hu4 : Upd (fun b => b = pb ∨ (Value.slice A es.length c).ownBlock = some b) w2 w4 := by
    refine Upd.grown (Upd.alloc (hu.mono fun _ _ x => .inl x) ob) hg fun b hb _ => .inr hb
  have hpar : Par w4 pb tg L.length tc j o k := (hg.block pb (by simp; have := hp.lt; omega) (fun e => by have := hvb pb e.symm; omega)).trans (halloc hp ob)
  obtain ⟨bs', h1, h2, h3⟩ := own_grown (w := w3.alloc ob) (w1 := w4) (base := w0.heap.size) (v := .slice A es.length c) es [⟨x, .slice A2 x.kids.length c2, bs2⟩]
    (fun e he => by
      rcases List.mem_append.1 he with he | he
      · exact ((hks e he).upd hu (fun b hb e2 => by have := ((hks e he).blocks b hb).1; omega)).alloc ob
      · rw [List.mem_singleton.1 he]; exact (hw.mono (by have := h.upd.size; omega)).alloc ob)
    ho hg (by simpa using hat) (by
      rw [List.flatMap_append, ← List.append_assoc]
      refine List.nodup_append.2 ⟨h.nodup, by simpa using hnd2, ?_⟩
      intro a ha b hb e
      have := (hlt a ha).2
      have := (hw.blocks b (by simpa using hb)).1
      omega)
  have hcases : ∀ b ∈ bs', b ≠ w0.heap.size ∧ b ≠ w0.heap.size + 1 := by
    intro b hb
    rcases h3 b hb with e | e | e
    · exact ⟨(hvb b e).2.2.1, (hvb b e).2.2.2⟩
    · rw [List.flatMap_append] at e
      rcases List.mem_append.1 e with e | e
      · have hm : b ∈ (Value.slice A es.length c).ownBlock.toList ++ es.flatMap El.bs := List.mem_append.2 (.inr e)
        exact ⟨fun e => h.ne0 (by rw [← e]; exact hm), fun e => h.ne1 (by rw [← e]; exact hm)⟩
      · have := (hw.blocks b (by simpa using e)).1
        omega
    · rw [World.size_alloc] at e; omega
  have hn0 : w0.heap.size ∉ bs' := fun e => (hcases _ e).1 rfl
  have hn1 : w0.heap.size + 1 ∉ bs' := fun e => (hcases _ e).2 rfl
  have hfO : ¬ (w0.heap.size = pb ∨ (Value.slice A es.length c).ownBlock = some w0.heap.size) := by rintro (e | e); omega; exact (hvb _ e).2.2.1 rfl
  have hfB : ¬ (w0.heap.size + 1 = pb ∨ (Value.slice A es.length c).ownBlock = some (w0.heap.size + 1)) := by rintro (e | e); omega; exact (hvb _ e).2.2.2 rfl
  have hfT : ¬ (tg = pb ∨ (Value.slice A es.length c).ownBlock = some tg) := by
    rintro (e | e)
    · exact hne e
    · have := (hvb _ e).1; omega
  have hbox := hu4.heap h.box hfB
  have hlen : (es.map El.d ++ [x]).length = es.length + 1 := by simp
  refine ⟨bs', ⟨hres, by have := h.fuel; omega, hj, hk, bother hpar (by omega) _, (h.toks.upd hu4 hfT).upd ((Upd.refl (fun b => b = w0.heap.size + 1) w4).set rfl _) (by omega), ?_, bother (hu4.heap h.out hfO) (by omega) _, ?_, ?_, h2, hn0, hn1, by have := h.len; simp only [List.length_map] at this; omega⟩⟩
  · have hx : Upd (fun b => b = pb) w0 w4 := h.upd.trans' hu4 (fun b hb e => by rcases e with e | e; exact e; have := (hvb _ e).1; omega)
    exact hx.new (by omega) _
  · have := bset hbox 3 (.slice A1 (es.length + 1) c1)
    rw [hlen]
    simpa using this
  · rw [hlen]
    have := h1.setCell (i := 3) hn1 (.slice A1 (es.length + 1) c1)
    simpa using this

theorem lst_dot {L : List Tok} {w0 w2 w3 w4 : World} {pb tg tc o g i m c c2 c4 j k : Nat} {r : PR Dat} {A A2 A4 : Option Addr} {kids K : List Dat} {bs bs2 bs4 : List Nat} {x : Dat} {u0 u1 u2 u3 u4 : Value}
    (h : Lst L w0 pb tg tc w0.heap.size o r (g + 1) w2 i m kids A c bs) (hpl : pb < w0.heap.size) (htl : tg < w0.heap.size) (hne : tg ≠ pb) (hp : Par w3 pb tg L.length tc j o k) (hu : Upd (fun b => b = pb) w2 w3)
    (hw : Own w3 w2.heap.size (.slice A2 x.kids.length c2) x.kids bs2) (hu4 : Upd (fun b => (Value.slice A kids.length c).ownBlock = some b) w3 w4) (ho : Own w4 w0.heap.size (.slice A4 K.length c4) K bs4) (hm4 : ∀ b ∈ bs4, b ∈ bs ∨ b ∈ bs2 ∨ w3.heap.size ≤ b) :
    Par (((((w4.setCell ⟨w0.heap.size + 1, 0, none⟩ u0).setCell ⟨w0.heap.size + 1, 1, none⟩ u1).setCell ⟨w0.heap.size + 1, 2, none⟩ u2).setCell ⟨w0.heap.size + 1, 3, none⟩ u3).setCell ⟨w0.heap.size + 1, 4, none⟩ u4) pb tg L.length tc j o k ∧
    Toks (((((w4.setCell ⟨w0.heap.size + 1, 0, none⟩ u0).setCell ⟨w0.heap.size + 1, 1, none⟩ u1).setCell ⟨w0.heap.size + 1, 2, none⟩ u2).setCell ⟨w0.heap.size + 1, 3, none⟩ u3).setCell ⟨w0.heap.size + 1, 4, none⟩ u4) tg L ∧
    Upd (fun b => b = pb) w0 (((((w4.setCell ⟨w0.heap.size + 1, 0, none⟩ u0).setCell ⟨w0.heap.size + 1, 1, none⟩ u1).setCell ⟨w0.heap.size + 1, 2, none⟩ u2).setCell ⟨w0.heap.size + 1, 3, none⟩ u3).setCell ⟨w0.heap.size + 1, 4, none⟩ u4) ∧
    (((((w4.setCell ⟨w0.heap.size + 1, 0, none⟩ u0).setCell ⟨w0.heap.size + 1, 1, none⟩ u1).setCell ⟨w0.heap.size + 1, 2, none⟩ u2).setCell ⟨w0.heap.size + 1, 3, none⟩ u3).setCell ⟨w0.heap.size + 1, 4, none⟩ u4).heap[w0.heap.size]? = some (.cells #[.int .u8 0, .int .i64 0, .string ⟨#[]⟩, .slice none 0 0, .bool false] 58 (0, 0)) ∧
    (((((w4.setCell ⟨w0.heap.size + 1, 0, none⟩ u0).setCell ⟨w0.heap.size + 1, 1, none⟩ u1).setCell ⟨w0.heap.size + 1, 2, none⟩ u2).setCell ⟨w0.heap.size + 1, 3, none⟩ u3).setCell ⟨w0.heap.size + 1, 4, none⟩ u4).heap[w0.heap.size + 1]? = some (.cells #[u0, u1, u2, u3, u4] 58 (0, 0)) ∧
    Own (((((w4.setCell ⟨w0.heap.size + 1, 0, none⟩ u0).setCell ⟨w0.heap.size + 1, 1, none⟩ u1).setCell ⟨w0.heap.size + 1, 2, none⟩ u2).setCell ⟨w0.heap.size + 1, 3, none⟩ u3).setCell ⟨w0.heap.size + 1, 4, none⟩ u4) w0.heap.size (.slice A4 K.length c4) K bs4 ∧ w0.heap.size ∉ bs4 := by
  obtain ⟨es, _, hbs, hrow, _⟩ := h.own.inv
  have hlt := h.own.blocks
  have hvb : ∀ b, (Value.slice A kids.length c).ownBlock = some b → w0.heap.size ≤ b ∧ b < w2.heap.size ∧ b ≠ w0.heap.size ∧ b ≠ w0.heap.size + 1 := by
    intro b hb
    have hm : b ∈ bs := by rw [hbs, hb]; simp
    have := hlt b hm
    exact ⟨this.1, this.2, fun e => h.ne0 (by rw [← e]; exact hm), fun e => h.ne1 (by rw [← e]; exact hm)⟩
  have hH2 := (Array.getElem?_eq_some_iff.1 h.box).1
  have hsz := hu.size
  have hu5 : Upd (fun b => b = pb ∨ (Value.slice A kids.length c).ownBlock = some b) w2 w4 := (hu.mono fun _ _ x => .inl x).trans (hu4.mono fun _ _ x => .inr x)
  have hcases : ∀ b ∈ bs4, b ≠ w0.heap.size ∧ b ≠ w0.heap.size + 1 := by
    intro b hb
    rcases hm4 b hb with e | e | e
    · exact ⟨fun e2 => h.ne0 (by rw [← e2]; exact e), fun e2 => h.ne1 (by rw [← e2]; exact e)⟩
    · have := (hw.blocks b e).1; omega
    · omega
  have hn0 : w0.heap.size ∉ bs4 := fun e => (hcases _ e).1 rfl
  have hn1 : w0.heap.size + 1 ∉ bs4 := fun e => (hcases _ e).2 rfl
  have hfO : ¬ (w0.heap.size = pb ∨ (Value.slice A kids.length c).ownBlock = some w0.heap.size) := by rintro (e | e); omega; exact (hvb _ e).2.2.1 rfl
  have hfB : ¬ (w0.heap.size + 1 = pb ∨ (Value.slice A kids.length c).ownBlock = some (w0.heap.size + 1)) := by rintro (e | e); omega; exact (hvb _ e).2.2.2 rfl
  have hfT : ¬ (tg = pb ∨ (Value.slice A kids.length c).ownBlock = some tg) := by
    rintro (e | e)
    · exact hne e
    · have := (hvb _ e).1; omega
  have hu0 : Upd (fun b => b = pb) w0 w4 := h.upd.trans' hu5 (fun b hb e => by rcases e with e | e; exact e; have := (hvb _ e).1; omega)
  refine ⟨bother5 (by omega) (hu4.heap hp (fun e => by have := (hvb _ e).1; omega)), ?_, upd5 (by omega) hu0, bother5 (by omega) (hu5.heap h.out hfO), bset5 (hu5.heap h.box hfB), ho.set5 hn1, hn0⟩
  have hx := h.toks.upd hu5 hfT
  have : Upd (fun b => b = w0.heap.size + 1) w4 (((((w4.setCell ⟨w0.heap.size + 1, 0, none⟩ u0).setCell ⟨w0.heap.size + 1, 1, none⟩ u1).setCell ⟨w0.heap.size + 1, 2, none⟩ u2).setCell ⟨w0.heap.size + 1, 3, none⟩ u3).setCell ⟨w0.heap.size + 1, 4, none⟩ u4) :=
    (((((Upd.refl (fun b => b = w0.heap.size + 1) w4).set rfl _).set rfl _).set rfl _).set rfl _).set rfl _
  exact hx.upd this (by omega)
theorem Lst.incr {L : List Tok} {w0 w : World} {pb tg tc o gk i m c : Nat} {r : PR Dat} {kids : List Dat} {A : Option Addr} {bs : List Nat} (h : Lst L w0 pb tg tc w0.heap.size o r gk w i m kids A c bs) (hi : i + 1 < L.length) (hpl : pb < w0.heap.size) (hne : tg ≠ pb) :
    Lst L w0 pb tg tc w0.heap.size o (pList L gk (i + 1) o m kids) gk (w.setCell ⟨pb, 1, none⟩ (.int .i64 ((i : Int) + 1))) (i + 1) m kids A c bs :=
  ⟨rfl, by have := h.fuel; omega, hi, h.many, (par_set h.par).1 _, h.toks.upd ((Upd.refl (fun b => b = pb) w).set rfl _) hne, h.upd.set rfl _, bother h.out (by omega) _, bother h.box (by omega) _, h.own.setCell (fun e => by have := (h.own.blocks _ e).1; omega) _, h.nodup, h.ne0, h.ne1, by have := h.len; omega⟩

set_option maxHeartbeats 4000000 in
set_option maxRecDepth 100000 in
theorem list_step (L : List Tok) (hL : EndL L) (hl : (L.length : Int) ≤ 1048577) (pb tg tc : Nat) (hne : tg ≠ pb) (n : Nat) (ihD : ∀ n', n' < n → DATUM L pb tg tc n') : LIST L pb tg tc n := by
  intro w i o m hp ht hi hf hm ho
  obtain ⟨i0, hi0, hz0, hz1, hz2⟩ := info_parts info58
  have hfine := ((p_fuel L hL n).2 i o m [] hi hf).1
  have hpl := hp.lt
  have htl := ht.1
  have HI := Lib.hid ihD
  have h0 := Lib.hid (show Lst L w pb tg tc w.heap.size o (pList L n i o m []) n ((w.alloc (.cells #[.int .u8 0, .int .i64 0, .string ⟨#[]⟩, .slice none 0 0, .bool false] 58)).alloc (.cells #[.int .u8 5, .int .i64 0, .string ⟨#[]⟩, .slice none 0 0, .bool false] 58)) i m [] none 0 [] from
    ⟨rfl, hf, hi, hm, halloc (halloc hp _) _, (ht.alloc _).alloc _, ((Upd.refl _ w).alloc _).alloc _, alloc1 _ _ _, alloc2 _ _ _, Own.nil _ _, List.nodup_nil, by simp, by simp, by simp⟩)
  generalize pList L n i o m [] = r at *
  have HF := Lib.hid hfine
  clear ihD hp ht hi hf hm hfine
  go_enter Try.func101, Try.ntmps101
  go_wp2_with fail
  go_loopg [] n (fun k wr => k ≤ n ∧ ∃ (i m : Nat) (kids : List Dat) (A : Option Addr) (c : Nat) (bs : List Nat), Lst L w pb tg tc w.heap.size o r k wr i m kids A c bs)
  case atStart => exact ⟨Nat.le_refl _, _, _, _, _, _, _, h0.out⟩
  case round =>
    obtain ⟨hgn, i, m, kids, A, c, bs, hrel⟩ := hrel
    have HR := Lib.hid hrel
    clear hrel h0
    obtain ⟨g, rfl⟩ : ∃ g, gk = g + 1 := ⟨gk - 1, by have := HR.out.fuel; omega⟩
    have ii0 : (0 : Int) ≤ i := by omega
    have i1 : (i : Int) < L.length := by have := HR.out.lt; omega
    have i2 : (i : Int) + 1 ≤ L.length := by omega
    by_cases h2 : tokK L i = 2
    · have his := is_calls L wr pb tg tc i o m 2 HR.out.par HR.out.toks HR.out.lt hl
      have hb2 : (tokK L i == 2) = true := by simpa using h2
      rw [hb2] at his
      have hr : r = .ok (lst kids false) (i + 1) m := by rw [HR.out.res, pList, if_pos h2]
      subst hr
      clear hb2 h2
      go_wp2_with (go_at_call 53; refine his.mono ?_; rintro e w1 ⟨rfl, hu1⟩; have HU1 := Lib.hid hu1; obtain ⟨y0, y1, y2, y3, yf0, yf1, yf2, yf3⟩ := blk4f (hu1.heap HR.out.par (fun x => x)); obtain ⟨⟨a0, a1, a2, a3, a4⟩, af⟩ := blk5 (hu1.heap HR.out.out (fun x => x)); obtain ⟨⟨b0, b1, b2, b3, b4⟩, bf⟩ := blk5 (hu1.heap HR.out.box (fun x => x)); have hsz := hu1.size; clear hu1)
      exact bodyPost_ret (results_cell1 rfl _ _ w.heap.size 58 #[_, _, _, _, _] _ rfl (by exact bset5 (bother (HU1.out.heap HR.out.out (fun x => x)) (by omega) _)) Try.underlying58 rfl size58) rfl
        (list_done (HU1.out.heap HR.out.par (fun x => x)) (HR.out.upd.trans (Upd.par HU1.out)) (HR.out.own.upd HU1.out (fun _ _ x => x)) HR.out.nodup HR.out.ne0 hpl)
    · by_cases h4 : 0 < kids.length ∧ tokK L i = 4
      · obtain ⟨hk0, hk4⟩ := h4
        have his := is_calls L wr pb tg tc i o m 2 HR.out.par HR.out.toks HR.out.lt hl
        have hb2 : (tokK L i == 2) = false := by simpa using h2
        rw [hb2] at his
        have hil := hL.lt HR.out.lt (by omega)
        have hr1 : ∀ x j k, pDat L g (i + 1) o m = .ok x j k → tokK L j = 2 → r = .ok (joinD kids x) (j + 1) k := fun x j k h h5 => by rw [HR.out.res, pList, if_neg h2, if_pos ⟨hk0, hk4⟩, h]; simp only [h5, if_true]
        have hr0 : ∀ x j k, pDat L g (i + 1) o m = .ok x j k → tokK L j ≠ 2 → r = .bad 60 (tokA L j) := fun x j k h h5 => by rw [HR.out.res, pList, if_neg h2, if_pos ⟨hk0, hk4⟩, h]; simp only [h5, if_false]
        have hr2 : ∀ e a, pDat L g (i + 1) o m = .bad e a → r = .bad e a := fun e a h => by rw [HR.out.res, pList, if_neg h2, if_pos ⟨hk0, hk4⟩, h]
        have hr3 : pDat L g (i + 1) o m = .out → r = .out := fun h => by rw [HR.out.res, pList, if_neg h2, if_pos ⟨hk0, hk4⟩, h]
        have hd := fun w3 (hp : Par w3 pb tg L.length tc (i + 1 : Nat) o m) (ht : Toks w3 tg L) => HI.out g (by omega) w3 (i + 1) o m hp ht hil (by have := HR.out.fuel; omega) HR.out.many ho
        have hbd := fun d j k => (p_bounds L hL g).1 (i + 1) o m d j k hil
        have hki : kids.length ≤ L.length := by have := HR.out.len; have := HR.out.lt; omega
        have hvn := Lib.hid (show ∀ q, (Value.slice A kids.length c).ownBlock = some q → w.heap.size ≤ q ∧ q ≠ w.heap.size + 1 from by
          obtain ⟨es, _, hbs, hrow, _⟩ := HR.out.own.inv
          intro q hq
          have hm : q ∈ bs := by rw [hbs, hq]; simp
          exact ⟨(HR.out.own.blocks q hm).1, fun e => HR.out.ne1 (by rw [← e]; exact hm)⟩)
        have Hbd := Lib.hid hbd
        have Hil := Lib.hid hil
        generalize pDat L g (i + 1) o m = rd at *
        have HD := Lib.hid hd
        have HR0' := Lib.hid hr0
        have HR1' := Lib.hid hr1
        have HR2' := Lib.hid hr2
        have HR3' := Lib.hid hr3
        have Hki := Lib.hid hki
        have hb4 : (tokK L i == 4) = true := by simpa using hk4
        have hk1 : (0 : Int) < kids.length := by omega
        have Hk4 := Lib.hid hb4
        clear hb2 h2 hd hbd hr1 hr2 hr3 hr0 hki hb4 hk4 hk0 hil
        go_wp2_with fail
        refine his.mono ?_
        rintro e w1 ⟨rfl, hu1⟩
        have HU1 := Lib.hid hu1
        have HR1 := Lib.hid (HR.out.new hu1)
        obtain ⟨⟨b0, b1, b2, b3, b4⟩, bf⟩ := blk5 HR1.out.box
        clear hu1 his
        have his := is_calls L w1 pb tg tc i o m 4 HR1.out.par HR1.out.toks HR1.out.lt hl
        rw [Hk4.out] at his
        go_wp2_with fail
        refine his.mono ?_
        rintro e w2 ⟨rfl, hu2⟩
        have HR2 := Lib.hid (HR1.out.new hu2)
        clear b0 b1 b2 b3 b4 bf
        obtain ⟨y0, y1, y2, y3, yf0, yf1, yf2, yf3⟩ := blk4f HR2.out.par
        clear hu2 his
        go_wp2_with fail
        have HRp := Lib.hid (HR2.out.incr Hil.out hpl hne)
        generalize w2.setCell ⟨pb, 1, none⟩ (.int .i64 ((i : Int) + 1)) = v2 at *
        have HRd := Lib.hid (HRp.out.new ((Upd.refl (fun _ => False) v2).drew))
        clear y0 y1 y2 y3 yf0 yf1 yf2 yf3
        obtain ⟨⟨b0, b1, b2, b3, b4⟩, bf⟩ := blk5 HRp.out.box
        cases rd with
        | out => exact absurd (HR3'.out rfl) HF.out
        | bad er ea =>
          have hrr := HR2'.out er ea rfl
          subst hrr
          go_region_dies
          all_goals (refine (HD.out _ HRd.out.par HRd.out.toks).mono ?_; rintro e w3 ⟨rfl, hu3⟩; exact ⟨rfl, rfl, HRd.out.upd.trans hu3⟩)
        | ok x j k =>
          have hbb := Hbd.out x j k rfl
          have HBB := Lib.hid hbb
          clear hbb
          have hjl := Lib.hid (show kids.length + x.kids.length + 1 ≤ 3000000 from by have := Hki.out; have := HBB.out; omega)
          go_region_law (first
            | (go_simp; go_at_call 54; refine (HD.out _ HRd.out.par HRd.out.toks).mono ?_; rintro e w3 ⟨kv2, bs2, rfl, hp3, hu3, hw3, hnd3⟩; obtain ⟨A2, c2, rfl, hAA⟩ := hw3.len; clear hAA; obtain ⟨⟨d0, d1, d2, d3, d4⟩, df⟩ := blk5 (hu3.heap HRd.out.box (show ¬ (w.heap.size + 1 = pb) by omega)); have HP3 := Lib.hid hp3; have HU3 := Lib.hid hu3; have HW3 := Lib.hid hw3; have HND3 := Lib.hid hnd3; clear hp3 hu3 hw3 hnd3; unfold datV)
            | (go_simp; go_at_call 129; refine (joined_calls w3 w.heap.size kids (.slice A kids.length c) bs x (.slice A2 x.kids.length c2) bs2 (HRd.out.own.upd HU3.out (fun b hb e => by have := (HRd.out.own.blocks b hb).1; omega)) (HW3.out.mono (by have := HRd.out.upd.size; omega)) (List.nodup_append.2 ⟨HRd.out.nodup, HND3.out, fun a ha b hb e => by have := (HRd.out.own.blocks a ha).2; have := (HW3.out.blocks b hb).1; omega⟩) (by have := HRd.out.upd.size; have := HU3.out.size; omega) hjl.out).mono ?_; rintro e w4 ⟨A4, c4, bs4, rfl, hj4, ho4, hnd4, hu4, hm4⟩; obtain ⟨⟨e0, e1, e2, e3, e4⟩, ef⟩ := blk5 (hu4.heap (HU3.out.heap HRd.out.box (show ¬ (w.heap.size + 1 = pb) by omega)) (fun e => (hvn.out _ e).2 rfl)); have HJ4 := Lib.hid hj4; have HO4 := Lib.hid ho4; have HND4 := Lib.hid hnd4; have HU4 := Lib.hid hu4; have HM4 := Lib.hid hm4; clear hj4 ho4 hnd4 hu4 hm4))
          all_goals
            obtain ⟨hp5, ht5, hu5, hO5, hB5, hw5, hn5⟩ := lst_dot (u0 := .int .u8 5) (u1 := .int .i64 0) (u2 := .string ⟨#[]⟩) (u3 := .slice A4 (joinD kids x).kids.length c4) (u4 := .bool (joinD kids x).dot) HRd.out hpl htl hne HP3.out HU3.out HW3.out HU4.out HO4.out HM4.out
            generalize ((((w4.setCell ⟨w.heap.size + 1, 0, none⟩ (.int .u8 5)).setCell ⟨w.heap.size + 1, 1, none⟩ (.int .i64 0)).setCell ⟨w.heap.size + 1, 2, none⟩ (.string ⟨#[]⟩)).setCell ⟨w.heap.size + 1, 3, none⟩ (.slice A4 (joinD kids x).kids.length c4)).setCell ⟨w.heap.size + 1, 4, none⟩ (.bool (joinD kids x).dot) = w5 at *
            clear b0 b1 b2 b3 b4 bf d0 d1 d2 d3 d4 df e0 e1 e2 e3 e4 ef
            have j0 : (0 : Int) ≤ j := by omega
            have j1 : (j : Int) < L.length := by have := HBB.out; omega
            have j2 : (j : Int) + 1 ≤ L.length := by omega
            have hjL := HBB.out.2.1
            by_cases h5 : tokK L j = 2
            · have his := is_calls L w5 pb tg tc j o k 2 hp5 ht5 hjL hl
              have hb5 : (tokK L j == 2) = true := by simpa using h5
              rw [hb5] at his
              have hrr := HR1'.out x j k rfl h5
              subst hrr
              have P5 := Lib.hid hp5
              have T5 := Lib.hid ht5
              have U5 := Lib.hid hu5
              have O5 := Lib.hid hO5
              have B5 := Lib.hid hB5
              have W5 := Lib.hid hw5
              have N5 := Lib.hid hn5
              clear hp5 ht5 hu5 hO5 hB5 hw5 hn5 hb5 h5
              go_wp2_with fail
              refine his.mono ?_
              rintro e w6 ⟨rfl, hu6⟩
              have HU6 := Lib.hid hu6
              obtain ⟨y0, y1, y2, y3, yf0, yf1, yf2, yf3⟩ := blk4f (hu6.heap P5.out (fun x => x))
              obtain ⟨⟨a0, a1, a2, a3, a4⟩, af⟩ := blk5 (hu6.heap O5.out (fun x => x))
              obtain ⟨⟨b0, b1, b2, b3, b4⟩, bf⟩ := blk5 (hu6.heap B5.out (fun x => x))
              clear hu6 his
              go_wp2_with fail
              have hfin := list_done (dot := (joinD kids x).dot) (HU6.out.heap P5.out (fun x => x)) (U5.out.trans (Upd.par HU6.out)) (W5.out.upd HU6.out (fun _ _ x => x)) HND4.out N5.out hpl
              exact bodyPost_ret (results_cell1 rfl _ _ w.heap.size 58 #[_, _, _, _, _] _ rfl (by exact bset5 (bother (HU6.out.heap O5.out (fun x => x)) (by omega) _)) Try.underlying58 rfl size58) rfl (by show DatOk _ _ _ _ _ (joinD kids x) _ _ _ _ _; rw [HJ4.out]; exact hfin)
            · have his := is_calls L w5 pb tg tc j o k 2 hp5 ht5 hjL hl
              have hb5 : (tokK L j == 2) = false := by simpa using h5
              rw [hb5] at his
              have hrr := HR0'.out x j k rfl h5
              subst hrr
              have P5 := Lib.hid hp5
              have T5 := Lib.hid ht5
              have U5 := Lib.hid hu5
              clear hp5 ht5 hu5 hO5 hB5 hw5 hn5 hb5 h5
              go_wp2_with fail
              refine his.mono ?_
              rintro e w6 ⟨rfl, hu6⟩
              have HU6 := Lib.hid hu6
              clear hu6 his
              go_wp2_with fail
              refine (fail_calls L w6 pb tg tc j o k 60 (HU6.out.heap P5.out (fun x => x)) (T5.out.new HU6.out) hjL hl).mono ?_
              rintro e w7 ⟨rfl, hu7⟩
              exact ⟨rfl, rfl, (U5.out.trans (Upd.par HU6.out)).trans (Upd.par hu7)⟩
      · have his := is_calls L wr pb tg tc i o m 2 HR.out.par HR.out.toks HR.out.lt hl
        have hb2 : (tokK L i == 2) = false := by simpa using h2
        rw [hb2] at his
        have hr1 : ∀ x j k, pDat L g i o m = .ok x j k → r = pList L g j o k (kids ++ [x]) := fun x j k h => by rw [HR.out.res, pList, if_neg h2, if_neg h4, h]
        have hr2 : ∀ e a, pDat L g i o m = .bad e a → r = .bad e a := fun e a h => by rw [HR.out.res, pList, if_neg h2, if_neg h4, h]
        have hr3 : pDat L g i o m = .out → r = .out := fun h => by rw [HR.out.res, pList, if_neg h2, if_neg h4, h]
        have hd := fun w3 (hp : Par w3 pb tg L.length tc i o m) (ht : Toks w3 tg L) => HI.out g (by omega) w3 i o m hp ht HR.out.lt (by have := HR.out.fuel; omega) HR.out.many ho
        have hbd := fun d j k => (p_bounds L hL g).1 i o m d j k HR.out.lt
        obtain ⟨es, hes, hbs, hrow, hks, h1⟩ := HR.out.own.es
        have hki : kids.length ≤ L.length := by have := HR.out.len; have := HR.out.lt; omega
        subst hes
        simp only [List.length_map] at *
        subst hbs
        have Hbd := Lib.hid hbd
        generalize pDat L g i o m = rd at *
        have HD := Lib.hid hd
        have HR1' := Lib.hid hr1
        have HR2' := Lib.hid hr2
        have HR3' := Lib.hid hr3
        have HROW := Lib.hid hrow
        have HKS := Lib.hid hks
        have Hki := Lib.hid hki
        have h44 := Lib.hid (show 0 < es.length → (tokK L i == 4) = false from fun h => by have : ¬ tokK L i = 4 := fun e => h4 ⟨h, e⟩; simpa using this)
        clear hb2 h2 hd hbd hr1 hr2 hr3 hrow hks h1 h4 hki
        go_wp2_with fail
        refine his.mono ?_
        rintro e w1 ⟨rfl, hu1⟩
        have HU1 := Lib.hid hu1
        have HR1 := Lib.hid (HR.out.new hu1)
        obtain ⟨⟨b0, b1, b2, b3, b4⟩, bf⟩ := blk5 HR1.out.box
        rw [List.length_map] at b3
        clear hu1 his
        by_cases hk0 : 0 < es.length
        · have his := is_calls L w1 pb tg tc i o m 4 HR1.out.par HR1.out.toks HR1.out.lt hl
          rw [h44.out hk0] at his
          have hk1 : (0 : Int) < es.length := by omega
          clear hk0
          go_wp2_with fail
          refine his.mono ?_
          rintro e w2 ⟨rfl, hu2⟩
          have HU2 := Lib.hid (HU1.out.trans hu2)
          have HRn := Lib.hid (HR1.out.new hu2)
          clear b0 b1 b2 b3 b4 bf
          obtain ⟨⟨b0, b1, b2, b3, b4⟩, bf⟩ := blk5 HRn.out.box
          rw [List.length_map] at b3
          clear hu2 his
          go_wp2_with fail
          have HRd := Lib.hid (HRn.out.new ((Upd.refl (fun _ => False) w2).drew))
          cases rd with
          | out => exact absurd (HR3'.out rfl) HF.out
          | bad er ea =>
            have hrr := HR2'.out er ea rfl
            subst hrr
            go_region_dies
            all_goals (refine (HD.out _ HRd.out.par HRd.out.toks).mono ?_; rintro e w3 ⟨rfl, hu3⟩; exact ⟨rfl, rfl, HRd.out.upd.trans hu3⟩)
          | ok x j k =>
            have hrr := HR1'.out x j k rfl
            have hbb := Hbd.out x j k rfl
            have HRR := Lib.hid hrr
            have HBB := Lib.hid hbb
            have hHl := (Array.getElem?_eq_some_iff.1 HRn.out.box).1
            have hkl : es.length ≤ 1048577 := by have := Hki.out; omega
            have m3 : es.length + 1 ≤ maxLen := by unfold maxLen; omega
            have m4 : (es.length + 1) * 64 ≤ 140737488355328 := by omega
            replace m3 := Lib.hid m3
            replace m4 := Lib.hid m4
            have hvn := Lib.hid (show ∀ q, (Value.slice A es.length c).ownBlock = some q → w.heap.size ≤ q ∧ q ≠ w.heap.size + 1 from fun q hq => ⟨(own_lt HROW.out q hq).1, fun e => HR.out.ne1 (by rw [← e]; exact List.mem_append.2 (.inl (by rw [hq]; simp)))⟩)
            clear hrr hbb hkl
            go_region_law (first
                | (go_simp; go_at_call 54; go_loud (refine (HD.out _ HRd.out.par HRd.out.toks).mono ?_; rintro e w3 ⟨kv2, bs2, rfl, hp3, hu3, hw3, hnd3⟩; obtain ⟨A2, c2, rfl, hAA⟩ := hw3.len; clear hAA; have b3' := hu3.cell b3 (show ¬ (w.heap.size + 1 = pb) by omega); have hH3 := Nat.lt_of_lt_of_le hHl hu3.size; have b3a := World.cell?_alloc_lt w3 (.cells #[.int .u8 x.k, .int .i64 x.n, .string x.t, .slice A2 x.kids.length c2, .bool x.dot] 58) ⟨w.heap.size + 1, 3, none⟩ hH3; rw [b3'] at b3a; have HBX3 := Lib.hid (hu3.heap HRd.out.box (show ¬ (w.heap.size + 1 = pb) by omega)); have HP3 := Lib.hid hp3; have HU3 := Lib.hid hu3; have HW3 := Lib.hid hw3; have HND3 := Lib.hid hnd3; have HROW3 := Lib.hid (hu3.ownsRow (HU2.out.ownsRow HROW.out (fun _ _ x => x)) (fun q hq e => by have := (hvn.out q hq).1; omega)); clear hp3 hu3 hw3 hnd3; unfold datV))
                | (go_loud (refine step_append_row (w3.alloc (.cells #[.int .u8 x.k, .int .i64 x.n, .string x.t, .slice A2 x.kids.length c2, .bool x.dot] 58)) (by rfl) (.tmp 33) (.tmp 36) 23 (by rfl) w.heap.size 58 i0 _ 5 64 Try.underlying23 hi0 hz0 hz1 hz2 rfl (by decide) (.slice A es.length c) es.length (elCells es) (by rfl) (HROW3.out.alloc (.cells #[.int .u8 x.k, .int .i64 x.n, .string x.t, .slice A2 x.kids.length c2, .bool x.dot] 58)) (.slice (some ⟨w3.heap.size, 0, none⟩) 1 1) 1 (elCells [⟨x, .slice A2 x.kids.length c2, bs2⟩]) (by rfl) (.inr ⟨w3.heap.size, 1, rfl, rfl, World.news_of_block (heap_alloc_new w3 (.cells #[.int .u8 x.k, .int .i64 x.n, .string x.t, .slice A2 x.kids.length c2, .bool x.dot] 58))⟩) (elCells_one _ (fun e he => by rw [List.mem_singleton.1 he]; exact ⟨_, _, _, rfl⟩)) m3.out m4.out (by have := HRd.out.upd.size; have := HU3.out.size; simp; omega) ?_); intro v1 w4 ho4 hg4 hat4; obtain ⟨A1, c1, rfl⟩ := own_form ho4; have b3b := hg4.cell b3a (fun e => (hvn.out _ e.symm).2 rfl); obtain ⟨-, bf4⟩ := blk5 ((hg4.block (w.heap.size + 1) (by simp; omega) (fun e => (hvn.out _ e.symm).2 rfl)).trans (halloc HBX3.out (.cells #[.int .u8 x.k, .int .i64 x.n, .string x.t, .slice A2 x.kids.length c2, .bool x.dot] 58))); have HO4 := Lib.hid ho4; have HG4 := Lib.hid hg4; have HAT4 := Lib.hid hat4; clear ho4 hg4 hat4))
            all_goals
              have hnx := lst_next HRd.out (fun e he => (HKS.out e he).upd (HU2.out.trans ((Upd.refl (fun _ => False) w2).drew)) (fun _ _ x => x)) hpl htl hne HBB.out.1 HBB.out.2.1 (HBB.out.2.2.2 HRd.out.many) HRR.out HP3.out HU3.out HW3.out HND3.out _ HO4.out HG4.out (by simpa using HAT4.out)
              obtain ⟨bs', hnx⟩ := hnx
              have HNX := Lib.hid hnx
              clear hnx
              go_wp2_with fail
              go_roundg g
              case measure => omega
              case rel => exact ⟨by omega, j, k, _, _, _, bs', HNX.out⟩
        · have hk1 : ¬ (0 : Int) < es.length := by omega
          have HU2 := HU1
          have HRn := HR1
          go_wp2_with fail
          have HRd := Lib.hid (HRn.out.new ((Upd.refl (fun _ => False) w1).drew))
          cases rd with
          | out => exact absurd (HR3'.out rfl) HF.out
          | bad er ea =>
            have hrr := HR2'.out er ea rfl
            subst hrr
            go_region_dies
            all_goals (refine (HD.out _ HRd.out.par HRd.out.toks).mono ?_; rintro e w3 ⟨rfl, hu3⟩; exact ⟨rfl, rfl, HRd.out.upd.trans hu3⟩)
          | ok x j k =>
            have hrr := HR1'.out x j k rfl
            have hbb := Hbd.out x j k rfl
            have HRR := Lib.hid hrr
            have HBB := Lib.hid hbb
            have hHl := (Array.getElem?_eq_some_iff.1 HRn.out.box).1
            have hkl : es.length ≤ 1048577 := by have := Hki.out; omega
            have m3 : es.length + 1 ≤ maxLen := by unfold maxLen; omega
            have m4 : (es.length + 1) * 64 ≤ 140737488355328 := by omega
            replace m3 := Lib.hid m3
            replace m4 := Lib.hid m4
            have hvn := Lib.hid (show ∀ q, (Value.slice A es.length c).ownBlock = some q → w.heap.size ≤ q ∧ q ≠ w.heap.size + 1 from fun q hq => ⟨(own_lt HROW.out q hq).1, fun e => HR.out.ne1 (by rw [← e]; exact List.mem_append.2 (.inl (by rw [hq]; simp)))⟩)
            clear hrr hbb hkl
            go_region_law (first
                | (go_simp; go_at_call 54; go_loud (refine (HD.out _ HRd.out.par HRd.out.toks).mono ?_; rintro e w3 ⟨kv2, bs2, rfl, hp3, hu3, hw3, hnd3⟩; obtain ⟨A2, c2, rfl, hAA⟩ := hw3.len; clear hAA; have b3' := hu3.cell b3 (show ¬ (w.heap.size + 1 = pb) by omega); have hH3 := Nat.lt_of_lt_of_le hHl hu3.size; have b3a := World.cell?_alloc_lt w3 (.cells #[.int .u8 x.k, .int .i64 x.n, .string x.t, .slice A2 x.kids.length c2, .bool x.dot] 58) ⟨w.heap.size + 1, 3, none⟩ hH3; rw [b3'] at b3a; have HBX3 := Lib.hid (hu3.heap HRd.out.box (show ¬ (w.heap.size + 1 = pb) by omega)); have HP3 := Lib.hid hp3; have HU3 := Lib.hid hu3; have HW3 := Lib.hid hw3; have HND3 := Lib.hid hnd3; have HROW3 := Lib.hid (hu3.ownsRow (HU2.out.ownsRow HROW.out (fun _ _ x => x)) (fun q hq e => by have := (hvn.out q hq).1; omega)); clear hp3 hu3 hw3 hnd3; unfold datV))
                | (go_loud (refine step_append_row (w3.alloc (.cells #[.int .u8 x.k, .int .i64 x.n, .string x.t, .slice A2 x.kids.length c2, .bool x.dot] 58)) (by rfl) (.tmp 33) (.tmp 36) 23 (by rfl) w.heap.size 58 i0 _ 5 64 Try.underlying23 hi0 hz0 hz1 hz2 rfl (by decide) (.slice A es.length c) es.length (elCells es) (by rfl) (HROW3.out.alloc (.cells #[.int .u8 x.k, .int .i64 x.n, .string x.t, .slice A2 x.kids.length c2, .bool x.dot] 58)) (.slice (some ⟨w3.heap.size, 0, none⟩) 1 1) 1 (elCells [⟨x, .slice A2 x.kids.length c2, bs2⟩]) (by rfl) (.inr ⟨w3.heap.size, 1, rfl, rfl, World.news_of_block (heap_alloc_new w3 (.cells #[.int .u8 x.k, .int .i64 x.n, .string x.t, .slice A2 x.kids.length c2, .bool x.dot] 58))⟩) (elCells_one _ (fun e he => by rw [List.mem_singleton.1 he]; exact ⟨_, _, _, rfl⟩)) m3.out m4.out (by have := HRd.out.upd.size; have := HU3.out.size; simp; omega) ?_); intro v1 w4 ho4 hg4 hat4; obtain ⟨A1, c1, rfl⟩ := own_form ho4; have b3b := hg4.cell b3a (fun e => (hvn.out _ e.symm).2 rfl); obtain ⟨-, bf4⟩ := blk5 ((hg4.block (w.heap.size + 1) (by simp; omega) (fun e => (hvn.out _ e.symm).2 rfl)).trans (halloc HBX3.out (.cells #[.int .u8 x.k, .int .i64 x.n, .string x.t, .slice A2 x.kids.length c2, .bool x.dot] 58))); have HO4 := Lib.hid ho4; have HG4 := Lib.hid hg4; have HAT4 := Lib.hid hat4; clear ho4 hg4 hat4))
            all_goals
              have hnx := lst_next HRd.out (fun e he => (HKS.out e he).upd (HU2.out.trans ((Upd.refl (fun _ => False) w1).drew)) (fun _ _ x => x)) hpl htl hne HBB.out.1 HBB.out.2.1 (HBB.out.2.2.2 HRd.out.many) HRR.out HP3.out HU3.out HW3.out HND3.out _ HO4.out HG4.out (by simpa using HAT4.out)
              obtain ⟨bs', hnx⟩ := hnx
              have HNX := Lib.hid hnx
              clear hnx
              go_wp2_with fail
              go_roundg g
              case measure => omega
              case rel => exact ⟨by omega, j, k, _, _, _, bs', HNX.out⟩
end Go.Proofs.Ytnnjhafjcdjobaa
