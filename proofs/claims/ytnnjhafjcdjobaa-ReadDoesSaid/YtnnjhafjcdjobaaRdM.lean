/- Read: Read on a good text. -/
import Derived.Test.YtnnjhafjcdjobaaRdL
namespace Go.Proofs.Ytnnjhafjcdjobaa
open Go.RowKit
set_option linter.unusedVariables false
set_option linter.unusedSimpArgs false

def readP (L : List Tok) : PR (List Dat) := pTop L (2 * L.length + 1) 0 0 []
def ReadPost (w : World) : PR (List Dat) → Ending → World → Prop
  | .ok acc _ _, e, w' => ∃ kv bs, e = .returned (.tuple #[kv, .int .i64 0, .int .i64 0]) ∧ New w w' ∧ Own w' w.heap.size kv acc bs ∧ bs.Nodup
  | .bad er a, e, w' => e = .returned (.tuple #[.slice none 0 0, .int .i64 er, .int .i64 a]) ∧ New w w'
  | .out, _, _ => True
def Fine' (r : PR (List Dat)) : Prop := r ≠ .out
theorem pTop_fine (L : List Tok) (hL : EndL L) : ∀ n i m acc, i < L.length → 2 * (L.length - i) + 1 ≤ n → pTop L n i m acc ≠ .out := by
  intro n
  induction n with
  | zero => intro i m acc h1 h2; omega
  | succ n ih =>
    intro i m acc h1 h2
    rw [pTop]
    by_cases h9 : tokK L i = 9
    · rw [if_pos h9]; exact fun h => by cases h
    · rw [if_neg h9]
      have hf := (p_fuel L hL n).1 i 0 m h1 (by omega)
      cases hr : pDat L n i 0 m with
      | ok x j k => have := hf.2 x j k hr; exact ih j k _ this.2 (by omega)
      | bad e a => exact fun h => by cases h
      | out => exact absurd hr hf.1
theorem readP_fine (L : List Tok) (hL : EndL L) : Fine' (readP L) := pTop_fine L hL _ 0 0 [] hL.pos (by omega)
theorem read_panics {L : List Tok} (w w1 w3 : World) (pb tg tc : Nat) (A : Option Addr) (na c : Nat) (es : List El) (i m : Nat) (v : Value) (nn : Nat) (cells : List Value) (er : Int) (ea : Nat) (hy : Lay w pb tg w.heap.size (w.heap.size + 1) (w.heap.size + 1 + 1))
    (h : Mid L w pb tg tc w.heap.size (w.heap.size + 1) (w.heap.size + 1 + 1) A na c es w1.drew i m v nn cells (.slice none 0 0) [] []) (hu : Upd (fun b => b = pb) w1.drew w3) (tmps : Array Value)
    (hp : tmps.getD 2 undef = .pointer (some ⟨w.heap.size, 0, none⟩) := by rfl) (hq : tmps.getD 3 undef = .pointer (some ⟨w.heap.size + 1, 0, none⟩) := by rfl) (hr : tmps.getD 4 undef = .pointer (some ⟨w.heap.size + 1 + 1, 0, none⟩) := by rfl) :
    Leaves Try.prog Try.f16 tmps (ReadPost w (.bad er ea)) [{ target := .fn (.func 52) #[.pointer (some ⟨w.heap.size, 0, none⟩), .pointer (some ⟨w.heap.size + 1, 0, none⟩), .pointer (some ⟨w.heap.size + 1 + 1, 0, none⟩)], args := #[] }] (.panicking (wrongC er ea)) w3 := by
  have hy' := hy
  obtain ⟨y0, y1, y2, y3, y4, y5⟩ := hy'
  have hn3 := h.upd.trans' hu (fun b hb e => by omega)
  refine leaves_cons (fv := .func 52) (f := 52) (args := #[.pointer (some ⟨w.heap.size, 0, none⟩), .pointer (some ⟨w.heap.size + 1, 0, none⟩), .pointer (some ⟨w.heap.size + 1 + 1, 0, none⟩)]) (by simp) (by kernel_rfl)
    ((catch_panicking w.heap.size (w.heap.size + 1) (w.heap.size + 1 + 1) (by omega) (by omega) (by omega) er ea w3 23 24 3 _ _ _ (hu.heap h.out (by omega)) (hu.heap h.box1 (by omega)) (hu.heap h.box2 (by omega))).mono ?_)
  rintro e u' w' ⟨rfl, rfl, hup, k0, k1, k2⟩
  exact ⟨_, results_cells3 rfl _ _ w.heap.size (w.heap.size + 1) (w.heap.size + 1 + 1) _ _ _ hp hq hr (load23 (blk1 k0).1) (load24 (blk1 k1).1) (load3 (blk1 k2).1), rfl, hn3.trans' hup (fun b hb e => by omega)⟩
theorem set_comm {w : World} {a b : Addr} (h : a.block ≠ b.block) (u v : Value) : (w.setCell a u).setCell b v = (w.setCell b v).setCell a u := by
  simp only [World.setCell, World.mk.injEq, and_true]
  apply Array.ext_getElem?
  intro i
  simp only [Array.getElem?_modify]
  by_cases h1 : a.block = i
  · by_cases h2 : b.block = i
    · omega
    · simp [h1, h2]
  · simp [h1]
theorem set5_comm {w : World} {G n b : Nat} (h : G ≠ b) {u0 u1 u2 u3 u4 v : Value} : ((((((w.setCell ⟨G, n, none⟩ u0).setCell ⟨G, n + 1, none⟩ u1).setCell ⟨G, n + 2, none⟩ u2).setCell ⟨G, n + 3, none⟩ u3).setCell ⟨G, n + 4, none⟩ u4).setCell ⟨b, 0, none⟩ v) =
    ((((((w.setCell ⟨b, 0, none⟩ v).setCell ⟨G, n, none⟩ u0).setCell ⟨G, n + 1, none⟩ u1).setCell ⟨G, n + 2, none⟩ u2).setCell ⟨G, n + 3, none⟩ u3).setCell ⟨G, n + 4, none⟩ u4) := by
  rw [set_comm (a := ⟨G, n + 4, none⟩) h, set_comm (a := ⟨G, n + 3, none⟩) h, set_comm (a := ⟨G, n + 2, none⟩) h, set_comm (a := ⟨G, n + 1, none⟩) h, set_comm (a := ⟨G, n, none⟩) h]
theorem own_some {w : World} {base size n : Nat} {e : TypeId} {v : Value} {xs : List Value} (h : w.ownsRow base e size v n xs) (hn : 0 < n) : ∃ g cap, v = .slice (some ⟨g, 0, none⟩) n cap := by
  rcases h.2 with ⟨_, h0⟩ | ⟨g, cap, cur, rfl, _⟩
  · omega
  · exact ⟨g, cap, rfl⟩
theorem zero_one : ∀ u ∈ [Value.int .u8 0, .int .i64 0, .string ⟨#[]⟩, .slice none 0 0, .bool false], u.oneCell' = true := by
  intro u hu
  simp only [List.mem_cons, List.not_mem_nil, or_false] at hu
  rcases hu with rfl | rfl | rfl | rfl | rfl <;> rfl
theorem row_cells {w : World} {base G c1 : Nat} {es : List El} {v0 v1 v2 v3 v4 : Value} (h : w.ownsRow base 58 5 (.slice (some ⟨G, 0, none⟩) (es.length + 1) c1) (es.length + 1) (elCells es ++ [v0, v1, v2, v3, v4])) :
    (w.cell? ⟨G, es.length * 5, none⟩ = some v0 ∧ w.cell? ⟨G, es.length * 5 + 1, none⟩ = some v1 ∧ w.cell? ⟨G, es.length * 5 + 2, none⟩ = some v2 ∧ w.cell? ⟨G, es.length * 5 + 3, none⟩ = some v3 ∧ w.cell? ⟨G, es.length * 5 + 4, none⟩ = some v4) ∧ ∀ o, w.frozen? ⟨G, o, none⟩ = false := by
  have hl := elCells_length es
  have hc := own_cells h
  refine ⟨⟨?_, ?_, ?_, ?_, ?_⟩, fun o => ?_⟩
  · have := hc (es.length * 5) v0 (by rw [← hl]; simp)
    simp only [Addr.add] at this
    split at this
    · rename_i h0; rw [h0]; exact this
    · simpa using this
  · have := hc (es.length * 5 + 1) v1 (by rw [← hl]; simp); simpa [Addr.add] using this
  · have := hc (es.length * 5 + 2) v2 (by rw [← hl]; simp); simpa [Addr.add] using this
  · have := hc (es.length * 5 + 3) v3 (by rw [← hl]; simp); simpa [Addr.add] using this
  · have := hc (es.length * 5 + 4) v4 (by rw [← hl]; simp); simpa [Addr.add] using this
  · rcases h.2 with ⟨h0, _⟩ | ⟨g', cap', cur, hv, hb, hg, _⟩
    · exact absurd h0 (by simp)
    · simp only [Value.slice.injEq, Option.some.injEq, Addr.mk.injEq] at hv
      obtain ⟨⟨rfl, _⟩, -, rfl⟩ := hv
      simp [World.frozen?, hg]
section
variable {L : List Tok} {w0 w w' : World} {pb tg tc B0 B1 B2 na c : Nat} {A : Option Addr} {es : List El} {i m : Nat} {v : Value} {nn : Nat} {cells : List Value} {kv : Value} {K : List Dat} {bs2 : List Nat} {v' : Value} {nn' : Nat} {cells' : List Value}
theorem first_some (hy : Lay w0 pb tg B0 B1 B2) (h : Mid L w0 pb tg tc B0 B1 B2 A na c es w i m v nn cells kv K bs2) (hg : w.grownBy w' v.ownBlock) (ho : w'.ownsRow (pb + 1) 58 5 v' nn' cells') (hat : v'.ownBlock = v.ownBlock ∨ v'.ownBlock = some w.heap.size) :
    Mid L w0 pb tg tc B0 B1 B2 A na c es w' i m v' nn' cells' kv K bs2 := h.app hy hg ho hat
theorem second_some {o : Obj} (hy : Lay w0 pb tg B0 B1 B2) (h : Mid L w0 pb tg tc B0 B1 B2 A na c es w i m v nn cells kv K bs2) (hg : (w.alloc o).grownBy w' v.ownBlock) (ho : w'.ownsRow (pb + 1) 58 5 v' nn' cells') (hat : v'.ownBlock = v.ownBlock ∨ v'.ownBlock = some (w.alloc o).heap.size) :
    Mid L w0 pb tg tc B0 B1 B2 A na c es w' i m v' nn' cells' kv K bs2 := (h.new ((Upd.refl (fun _ => False) w).alloc o)).app hy hg ho hat
end
set_option maxHeartbeats 20000000 in
set_option maxRecDepth 100000 in
theorem read_good (s : ByteArray) (hs : Small s) (h : ¬ tokErr s) (hL : EndL (toks s 0).1) (w : World) : Calls Try.prog 16 #[.string s] w (ReadPost w (readP (toks s 0).1)) := by
  have h12 := tokens_good s hs h
  have H12 := Lib.hid h12
  have hl : ((toks s 0).1.length : Int) ≤ 1048577 := by
    have h3 := toks_len s _ 0 rfl (Nat.zero_le _)
    have h4 := of_decide_eq_false (tokErr_not h).1
    omega
  obtain ⟨i0, hi0, hz0, hz1, hz2⟩ := info_parts info58
  generalize (toks s 0).1 = L at *
  clear h12 h
  go_enter_defers Try.func16, Try.ntmps16
  go_wp2_with fail
  refine (H12.out _).mono ?_
  rintro e w1 ⟨tg, tc, rfl, hu, ht, htg⟩
  have h0 := hu.heap (k := w.heap.size) (by exact alloc31 _ _ _ _) (fun x => x)
  have h1 := hu.heap (k := w.heap.size + 1) (by exact alloc32 _ _ _ _) (fun x => x)
  have h2 := hu.heap (k := w.heap.size + 1 + 1) (by exact alloc33 _ _ _ _) (fun x => x)
  have HU := Lib.hid (((((Upd.refl (fun _ => False) w).alloc _).alloc _).alloc _).trans hu)
  obtain ⟨a0, f0⟩ := blk1 h0
  obtain ⟨a1, f1⟩ := blk1 h1
  obtain ⟨a2, f2⟩ := blk1 h2
  have l0 := (Array.getElem?_eq_some_iff.1 h0).1
  have H0 := Lib.hid h0
  have H1 := Lib.hid h1
  have H2 := Lib.hid h2
  have HT := Lib.hid ht
  simp only [World.size_alloc] at htg
  clear hu h0 h1 h2 ht
  go_wp2_with fail
  obtain ⟨g0, g1, g2⟩ := store12 H0.out H1.out H2.out (.int .i64 0) (.int .i64 0)
  have hpos := hL.pos
  have h0 := Lib.hid (show Top L w w1.heap.size tg tc w.heap.size (w.heap.size + 1) (w.heap.size + 1 + 1) (readP L) (2 * L.length + 1) (((w1.setCell ⟨w.heap.size + 1, 0, none⟩ (.int .i64 0)).setCell ⟨w.heap.size + 1 + 1, 0, none⟩ (.int .i64 0)).alloc (.cells #[.slice (some ⟨tg, 0, none⟩) L.length tc, .int .i64 0, .int .i64 0, .int .i64 0] 110)) 0 0 [] none 0 from
    ⟨rfl, by omega, hpos, by omega, by simp, (by have := heap_alloc_new ((w1.setCell ⟨w.heap.size + 1, 0, none⟩ (.int .i64 0)).setCell ⟨w.heap.size + 1 + 1, 0, none⟩ (.int .i64 0)) (.cells #[.slice (some ⟨tg, 0, none⟩) L.length tc, .int .i64 0, .int .i64 0, .int .i64 0] 110); simpa [Par] using this),
      ((HT.out.upd ((Upd.refl (fun b => b = w.heap.size + 1 ∨ b = w.heap.size + 1 + 1) w1).set (.inl rfl) _) (by omega)).upd ((Upd.refl (fun b => b = w.heap.size + 1 ∨ b = w.heap.size + 1 + 1) _).set (.inr rfl) _) (by omega)).alloc _,
      ((HU.out.new (by omega) _).new (by omega) _).alloc _, halloc g0 _, halloc g1 _, halloc g2 _, ⟨rfl, .inl ⟨rfl, rfl⟩⟩, by simp, Own.nil _ _, by simp [Value.ownBlock]⟩)
  have hy := Lib.hid (show Lay w w1.heap.size tg w.heap.size (w.heap.size + 1) (w.heap.size + 1 + 1) from ⟨by omega, by omega, by have := HT.out.1; omega, HT.out.1, by omega, Nat.le_refl _⟩)
  generalize ((w1.setCell ⟨w.heap.size + 1, 0, none⟩ (.int .i64 0)).setCell ⟨w.heap.size + 1 + 1, 0, none⟩ (.int .i64 0)).alloc (.cells #[.slice (some ⟨tg, 0, none⟩) L.length tc, .int .i64 0, .int .i64 0, .int .i64 0] 110) = W3 at *
  generalize w1.heap.size = pb at *
  have hr : Fine' (readP L) := readP_fine L hL
  generalize readP L = r at *
  have HF := Lib.hid hr
  have hne : tg ≠ pb := by have := hy.out; unfold Lay at this; omega
  have hall := Lib.hid (datum_all L hL hl pb tg tc hne)
  clear HT HU H0 H1 H2 H12 htg a0 f0 a1 f1 a2 f2 l0 g0 g1 g2 w1 hr
  go_loopg [] (2 * L.length + 1) (fun k wr => k ≤ 2 * L.length + 1 ∧ ∃ (i m : Nat) (es : List El) (A : Option Addr) (c : Nat), Top L w pb tg tc w.heap.size (w.heap.size + 1) (w.heap.size + 1 + 1) r k wr i m es A c)
  case atStart => exact ⟨Nat.le_refl _, _, _, _, _, _, h0.out⟩
  case round =>
    obtain ⟨hgn, i, m, es, A, c, hrel⟩ := hrel
    have HR := Lib.hid hrel
    clear hrel h0
    obtain ⟨g, rfl⟩ : ∃ g, gk = g + 1 := ⟨gk - 1, by have := HR.out.fuel; omega⟩
    have ii0 : (0 : Int) ≤ i := by omega
    have i1 : (i : Int) < L.length := by have := HR.out.lt; omega
    have i2 : (i : Int) + 1 ≤ L.length := by omega
    have hki : es.length ≤ L.length := by have := HR.out.len; have := HR.out.lt; omega
    by_cases h9 : tokK L i = 9
    · have his := is_calls L wr pb tg tc i (0 : Nat) m 9 HR.out.mid.par HR.out.mid.toks HR.out.lt hl
      have hb9 : (tokK L i == 9) = true := by simpa using h9
      rw [hb9] at his
      have hr : r = .ok (es.map El.d) i m := by rw [HR.out.res, pTop, if_pos h9]
      subst hr
      clear hb9 h9
      go_wp2_with fail
      refine his.mono ?_
      rintro e w1 ⟨rfl, hu1⟩
      have HM := Lib.hid (HR.out.mid.new hu1)
      obtain ⟨a0, f0⟩ := blk1 HM.out.out
      obtain ⟨a1, f1⟩ := blk1 HM.out.box1
      obtain ⟨a2, f2⟩ := blk1 HM.out.box2
      clear hu1
      go_wp2_with fail
      have hn : ∀ b, pb + 1 ≤ b → ¬ (b = w.heap.size ∨ b = w.heap.size + 1 ∨ b = w.heap.size + 1 + 1) := fun b h => by have := hy.out; unfold Lay at this; omega
      have hup3 := (((Upd.refl (fun b => b = w.heap.size ∨ b = w.heap.size + 1 ∨ b = w.heap.size + 1 + 1) w1).set (b := w.heap.size) (i := 0) (.inl rfl) (.slice A es.length c)).set (b := w.heap.size + 1) (i := 0) (.inr (.inl rfl)) (.int .i64 0)).set (b := w.heap.size + 1 + 1) (i := 0) (.inr (.inr rfl)) (.int .i64 0)
      have hnew := HM.out.upd.trans' hup3 (fun b hb e => by omega)
      obtain ⟨k0, k1, k2⟩ := set3 HM.out.out HM.out.box1 HM.out.box2 (by omega) (by omega) (by omega) (.slice A es.length c) (.int .i64 0) (.int .i64 0)
      generalize ((w1.setCell ⟨w.heap.size, 0, none⟩ (.slice A es.length c)).setCell ⟨w.heap.size + 1, 0, none⟩ (.int .i64 0)).setCell ⟨w.heap.size + 1 + 1, 0, none⟩ (.int .i64 0) = w9 at *
      refine leaves_cons (fv := .func 52) (f := 52) (args := #[.pointer (some ⟨w.heap.size, 0, none⟩), .pointer (some ⟨w.heap.size + 1, 0, none⟩), .pointer (some ⟨w.heap.size + 1 + 1, 0, none⟩)]) (by simp) (by kernel_rfl) ((catch_idle w.heap.size (w.heap.size + 1) (w.heap.size + 1 + 1) w9).mono ?_)
      rintro e u' w' ⟨rfl, rfl, hn'⟩
      refine ⟨_, results_cells3 rfl _ _ w.heap.size (w.heap.size + 1) (w.heap.size + 1 + 1) _ _ _ rfl rfl rfl (load23 (blk1 (hn'.heap k0 (fun x => x))).1) (load24 (blk1 (hn'.heap k1 (fun x => x))).1) (load3 (blk1 (hn'.heap k2 (fun x => x))).1), _, _, rfl, hnew.trans hn', ?_, by have := HM.out.nd; rw [List.append_nil] at this; exact this⟩
      have hrow := hn'.ownsRow (hup3.ownsRow HM.out.row (fun q hq e => hn _ ((own_lt HM.out.row q hq).1) e)) (fun _ _ x => x)
      exact (Own.mk _ es hrow (fun e he => ((HM.out.hks e he).upd hup3 (fun b hb e2 => hn _ ((HM.out.hks e he).blocks b hb).1 e2)).upd hn' (fun _ _ x => x))).mono (by have := hy.out; unfold Lay at this; omega)
    · have his := is_calls L wr pb tg tc i (0 : Nat) m 9 HR.out.mid.par HR.out.mid.toks HR.out.lt hl
      have hb9 : (tokK L i == 9) = false := by simpa using h9
      rw [hb9] at his
      have hr1 : ∀ x j k, pDat L g i 0 m = .ok x j k → r = pTop L g j k (es.map El.d ++ [x]) := fun x j k h => by rw [HR.out.res, pTop, if_neg h9, h]
      have hr2 : ∀ e a, pDat L g i 0 m = .bad e a → r = .bad e a := fun e a h => by rw [HR.out.res, pTop, if_neg h9, h]
      have hr3 : pDat L g i 0 m = .out → r = .out := fun h => by rw [HR.out.res, pTop, if_neg h9, h]
      have hd := fun w3 (hp : Par w3 pb tg L.length tc i (0 : Nat) m) (ht : Toks w3 tg L) => hall.out g w3 i 0 m hp ht HR.out.lt (by have := HR.out.fuel; omega) HR.out.many (by omega)
      have hbd := fun d j k => (p_bounds L hL g).1 i 0 m d j k HR.out.lt
      have Hbd := Lib.hid hbd
      generalize pDat L g i 0 m = rd at *
      have HD := Lib.hid hd
      have HR1' := Lib.hid hr1
      have HR2' := Lib.hid hr2
      have HR3' := Lib.hid hr3
      clear hb9 h9 hd hbd hr1 hr2 hr3
      go_wp2_with fail
      refine his.mono ?_
      rintro e w1 ⟨rfl, hu1⟩
      have HM := Lib.hid ((HR.out.mid.new hu1).new ((Upd.refl (fun _ => False) w1).drew))
      have HA := Lib.hid ((HR.out.mid.new hu1).new (((Upd.refl (fun _ => False) w1).alloc (.cells #[.int .u8 0, .int .i64 0, .string ⟨#[]⟩, .slice none 0 0, .bool false] 58)).drew))
      obtain ⟨a0, f0⟩ := blk1 (HR.out.mid.new hu1).out
      have hlt := (Array.getElem?_eq_some_iff.1 (HR.out.mid.new hu1).out).1
      have a0A : (w1.alloc (.cells #[.int .u8 0, .int .i64 0, .string ⟨#[]⟩, .slice none 0 0, .bool false] 58)).cell? ⟨w.heap.size, 0, none⟩ = some (.slice A es.length c) := (World.cell?_alloc_lt _ _ _ hlt).trans a0
      clear hu1 his
      go_wp2_with fail
      cases rd with
      | out => exact absurd (HR3'.out rfl) HF.out
      | bad er ea =>
        have hrr := HR2'.out er ea rfl
        subst hrr
        refine wp_region_any (by kernel_rfl) ?_
        change wpAny _ _ _ _ 9 _ _ (World.drew _)
        refine wpAny_ready (rs := [0, 1, 4]) (by kernel_rfl) (by simp) ?_
        refine AllReady.cons rfl (fun K hK => ?_) ?_
        · go_simp
          refine hK _ _ ?_
          clear hK K
          refine wpAny_ready (rs := [1, 3, 4]) (by kernel_rfl) (by simp) ?_
          refine AllReady.cons rfl (fun K hK => ?_) ?_
          · go_simp
            refine hK _ _ ?_
            clear hK K
            refine wpAny_ready (rs := [2, 3, 4]) (by kernel_rfl) (by simp) ?_
            refine AllReady.cons rfl (fun K hK => ?_) ?_
            · (go_simp; refine (HD.out _ HM.out.par HM.out.toks).mono ?_; rintro e w3 ⟨rfl, hu3⟩; exact read_panics w w1 w3 pb tg tc A es.length c es i m _ _ _ er ea hy.out HM.out hu3 _)
            refine AllReady.cons rfl (fun K hK => ?_) ?_
            · go_simp
              refine hK _ _ ?_
              clear hK K
              refine wpAny_ready (rs := [2, 4]) (by kernel_rfl) (by simp) ?_
              refine AllReady.cons rfl (fun K hK => ?_) ?_
              · (go_simp; refine (HD.out _ HM.out.par HM.out.toks).mono ?_; rintro e w3 ⟨rfl, hu3⟩; exact read_panics w w1 w3 pb tg tc A es.length c es i m _ _ _ er ea hy.out HM.out hu3 _)
              refine AllReady.cons rfl (fun K hK => ?_) ?_
              · go_simp
                refine hK _ _ ?_
                clear hK K
                refine wpAny_ready (rs := [2]) (by kernel_rfl) (by simp) ?_
                refine AllReady.cons rfl (fun K hK => ?_) ?_
                · (go_simp; refine (HD.out _ HA.out.par HA.out.toks).mono ?_; rintro e w3 ⟨rfl, hu3⟩; exact read_panics w (w1.alloc (.cells #[.int .u8 0, .int .i64 0, .string ⟨#[]⟩, .slice none 0 0, .bool false] 58)) w3 pb tg tc A es.length c es i m _ _ _ er ea hy.out HA.out hu3 _)
                exact AllReady.nil
              exact AllReady.nil
            refine AllReady.cons rfl (fun K hK => ?_) ?_
            · go_simp
              refine hK _ _ ?_
              clear hK K
              refine wpAny_ready (rs := [2, 3]) (by kernel_rfl) (by simp) ?_
              refine AllReady.cons rfl (fun K hK => ?_) ?_
              · (go_simp; refine (HD.out _ HA.out.par HA.out.toks).mono ?_; rintro e w3 ⟨rfl, hu3⟩; exact read_panics w (w1.alloc (.cells #[.int .u8 0, .int .i64 0, .string ⟨#[]⟩, .slice none 0 0, .bool false] 58)) w3 pb tg tc A es.length c es i m _ _ _ er ea hy.out HA.out hu3 _)
              refine AllReady.cons rfl (fun K hK => ?_) ?_
              · go_simp
                refine hK _ _ ?_
                clear hK K
                refine wpAny_ready (rs := [2]) (by kernel_rfl) (by simp) ?_
                refine AllReady.cons rfl (fun K hK => ?_) ?_
                · (go_simp; refine (HD.out _ HA.out.par HA.out.toks).mono ?_; rintro e w3 ⟨rfl, hu3⟩; exact read_panics w (w1.alloc (.cells #[.int .u8 0, .int .i64 0, .string ⟨#[]⟩, .slice none 0 0, .bool false] 58)) w3 pb tg tc A es.length c es i m _ _ _ er ea hy.out HA.out hu3 _)
                exact AllReady.nil
              exact AllReady.nil
            exact AllReady.nil
          refine AllReady.cons rfl (fun K hK => ?_) ?_
          · go_simp
            refine hK _ _ ?_
            clear hK K
            refine wpAny_ready (rs := [1, 4]) (by kernel_rfl) (by simp) ?_
            refine AllReady.cons rfl (fun K hK => ?_) ?_
            · go_simp
              refine hK _ _ ?_
              clear hK K
              refine wpAny_ready (rs := [2, 4]) (by kernel_rfl) (by simp) ?_
              refine AllReady.cons rfl (fun K hK => ?_) ?_
              · (go_simp; refine (HD.out _ HM.out.par HM.out.toks).mono ?_; rintro e w3 ⟨rfl, hu3⟩; exact read_panics w w1 w3 pb tg tc A es.length c es i m _ _ _ er ea hy.out HM.out hu3 _)
              refine AllReady.cons rfl (fun K hK => ?_) ?_
              · go_simp
                refine hK _ _ ?_
                clear hK K
                refine wpAny_ready (rs := [2]) (by kernel_rfl) (by simp) ?_
                refine AllReady.cons rfl (fun K hK => ?_) ?_
                · (go_simp; refine (HD.out _ HA.out.par HA.out.toks).mono ?_; rintro e w3 ⟨rfl, hu3⟩; exact read_panics w (w1.alloc (.cells #[.int .u8 0, .int .i64 0, .string ⟨#[]⟩, .slice none 0 0, .bool false] 58)) w3 pb tg tc A es.length c es i m _ _ _ er ea hy.out HA.out hu3 _)
                exact AllReady.nil
              exact AllReady.nil
            refine AllReady.cons rfl (fun K hK => ?_) ?_
            · go_simp
              refine hK _ _ ?_
              clear hK K
              refine wpAny_ready (rs := [1]) (by kernel_rfl) (by simp) ?_
              refine AllReady.cons rfl (fun K hK => ?_) ?_
              · go_simp
                refine hK _ _ ?_
                clear hK K
                refine wpAny_ready (rs := [2]) (by kernel_rfl) (by simp) ?_
                refine AllReady.cons rfl (fun K hK => ?_) ?_
                · (go_simp; refine (HD.out _ HA.out.par HA.out.toks).mono ?_; rintro e w3 ⟨rfl, hu3⟩; exact read_panics w (w1.alloc (.cells #[.int .u8 0, .int .i64 0, .string ⟨#[]⟩, .slice none 0 0, .bool false] 58)) w3 pb tg tc A es.length c es i m _ _ _ er ea hy.out HA.out hu3 _)
                exact AllReady.nil
              exact AllReady.nil
            exact AllReady.nil
          refine AllReady.cons rfl (fun K hK => ?_) ?_
          · go_simp
            refine hK _ _ ?_
            clear hK K
            refine wpAny_ready (rs := [1, 3]) (by kernel_rfl) (by simp) ?_
            refine AllReady.cons rfl (fun K hK => ?_) ?_
            · go_simp
              refine hK _ _ ?_
              clear hK K
              refine wpAny_ready (rs := [2, 3]) (by kernel_rfl) (by simp) ?_
              refine AllReady.cons rfl (fun K hK => ?_) ?_
              · (go_simp; refine (HD.out _ HA.out.par HA.out.toks).mono ?_; rintro e w3 ⟨rfl, hu3⟩; exact read_panics w (w1.alloc (.cells #[.int .u8 0, .int .i64 0, .string ⟨#[]⟩, .slice none 0 0, .bool false] 58)) w3 pb tg tc A es.length c es i m _ _ _ er ea hy.out HA.out hu3 _)
              refine AllReady.cons rfl (fun K hK => ?_) ?_
              · go_simp
                refine hK _ _ ?_
                clear hK K
                refine wpAny_ready (rs := [2]) (by kernel_rfl) (by simp) ?_
                refine AllReady.cons rfl (fun K hK => ?_) ?_
                · (go_simp; refine (HD.out _ HA.out.par HA.out.toks).mono ?_; rintro e w3 ⟨rfl, hu3⟩; exact read_panics w (w1.alloc (.cells #[.int .u8 0, .int .i64 0, .string ⟨#[]⟩, .slice none 0 0, .bool false] 58)) w3 pb tg tc A es.length c es i m _ _ _ er ea hy.out HA.out hu3 _)
                exact AllReady.nil
              exact AllReady.nil
            refine AllReady.cons rfl (fun K hK => ?_) ?_
            · go_simp
              refine hK _ _ ?_
              clear hK K
              refine wpAny_ready (rs := [1]) (by kernel_rfl) (by simp) ?_
              refine AllReady.cons rfl (fun K hK => ?_) ?_
              · go_simp
                refine hK _ _ ?_
                clear hK K
                refine wpAny_ready (rs := [2]) (by kernel_rfl) (by simp) ?_
                refine AllReady.cons rfl (fun K hK => ?_) ?_
                · (go_simp; refine (HD.out _ HA.out.par HA.out.toks).mono ?_; rintro e w3 ⟨rfl, hu3⟩; exact read_panics w (w1.alloc (.cells #[.int .u8 0, .int .i64 0, .string ⟨#[]⟩, .slice none 0 0, .bool false] 58)) w3 pb tg tc A es.length c es i m _ _ _ er ea hy.out HA.out hu3 _)
                exact AllReady.nil
              exact AllReady.nil
            exact AllReady.nil
          exact AllReady.nil
        refine AllReady.cons rfl (fun K hK => ?_) ?_
        · go_simp
          refine hK _ _ ?_
          clear hK K
          refine wpAny_ready (rs := [0, 2, 4]) (by kernel_rfl) (by simp) ?_
          refine AllReady.cons rfl (fun K hK => ?_) ?_
          · go_simp
            refine hK _ _ ?_
            clear hK K
            refine wpAny_ready (rs := [2, 3, 4]) (by kernel_rfl) (by simp) ?_
            refine AllReady.cons rfl (fun K hK => ?_) ?_
            · (go_simp; refine (HD.out _ HM.out.par HM.out.toks).mono ?_; rintro e w3 ⟨rfl, hu3⟩; exact read_panics w w1 w3 pb tg tc A es.length c es i m _ _ _ er ea hy.out HM.out hu3 _)
            refine AllReady.cons rfl (fun K hK => ?_) ?_
            · go_simp
              refine hK _ _ ?_
              clear hK K
              refine wpAny_ready (rs := [2, 4]) (by kernel_rfl) (by simp) ?_
              refine AllReady.cons rfl (fun K hK => ?_) ?_
              · (go_simp; refine (HD.out _ HM.out.par HM.out.toks).mono ?_; rintro e w3 ⟨rfl, hu3⟩; exact read_panics w w1 w3 pb tg tc A es.length c es i m _ _ _ er ea hy.out HM.out hu3 _)
              refine AllReady.cons rfl (fun K hK => ?_) ?_
              · go_simp
                refine hK _ _ ?_
                clear hK K
                refine wpAny_ready (rs := [2]) (by kernel_rfl) (by simp) ?_
                refine AllReady.cons rfl (fun K hK => ?_) ?_
                · (go_simp; refine (HD.out _ HA.out.par HA.out.toks).mono ?_; rintro e w3 ⟨rfl, hu3⟩; exact read_panics w (w1.alloc (.cells #[.int .u8 0, .int .i64 0, .string ⟨#[]⟩, .slice none 0 0, .bool false] 58)) w3 pb tg tc A es.length c es i m _ _ _ er ea hy.out HA.out hu3 _)
                exact AllReady.nil
              exact AllReady.nil
            refine AllReady.cons rfl (fun K hK => ?_) ?_
            · go_simp
              refine hK _ _ ?_
              clear hK K
              refine wpAny_ready (rs := [2, 3]) (by kernel_rfl) (by simp) ?_
              refine AllReady.cons rfl (fun K hK => ?_) ?_
              · (go_simp; refine (HD.out _ HA.out.par HA.out.toks).mono ?_; rintro e w3 ⟨rfl, hu3⟩; exact read_panics w (w1.alloc (.cells #[.int .u8 0, .int .i64 0, .string ⟨#[]⟩, .slice none 0 0, .bool false] 58)) w3 pb tg tc A es.length c es i m _ _ _ er ea hy.out HA.out hu3 _)
              refine AllReady.cons rfl (fun K hK => ?_) ?_
              · go_simp
                refine hK _ _ ?_
                clear hK K
                refine wpAny_ready (rs := [2]) (by kernel_rfl) (by simp) ?_
                refine AllReady.cons rfl (fun K hK => ?_) ?_
                · (go_simp; refine (HD.out _ HA.out.par HA.out.toks).mono ?_; rintro e w3 ⟨rfl, hu3⟩; exact read_panics w (w1.alloc (.cells #[.int .u8 0, .int .i64 0, .string ⟨#[]⟩, .slice none 0 0, .bool false] 58)) w3 pb tg tc A es.length c es i m _ _ _ er ea hy.out HA.out hu3 _)
                exact AllReady.nil
              exact AllReady.nil
            exact AllReady.nil
          refine AllReady.cons rfl (fun K hK => ?_) ?_
          · (go_simp; refine (HD.out _ HM.out.par HM.out.toks).mono ?_; rintro e w3 ⟨rfl, hu3⟩; exact read_panics w w1 w3 pb tg tc A es.length c es i m _ _ _ er ea hy.out HM.out hu3 _)
          refine AllReady.cons rfl (fun K hK => ?_) ?_
          · go_simp
            refine hK _ _ ?_
            clear hK K
            refine wpAny_ready (rs := [0, 2]) (by kernel_rfl) (by simp) ?_
            refine AllReady.cons rfl (fun K hK => ?_) ?_
            · go_simp
              refine hK _ _ ?_
              clear hK K
              refine wpAny_ready (rs := [2, 3]) (by kernel_rfl) (by simp) ?_
              refine AllReady.cons rfl (fun K hK => ?_) ?_
              · (go_simp; refine (HD.out _ HA.out.par HA.out.toks).mono ?_; rintro e w3 ⟨rfl, hu3⟩; exact read_panics w (w1.alloc (.cells #[.int .u8 0, .int .i64 0, .string ⟨#[]⟩, .slice none 0 0, .bool false] 58)) w3 pb tg tc A es.length c es i m _ _ _ er ea hy.out HA.out hu3 _)
              refine AllReady.cons rfl (fun K hK => ?_) ?_
              · go_simp
                refine hK _ _ ?_
                clear hK K
                refine wpAny_ready (rs := [2]) (by kernel_rfl) (by simp) ?_
                refine AllReady.cons rfl (fun K hK => ?_) ?_
                · (go_simp; refine (HD.out _ HA.out.par HA.out.toks).mono ?_; rintro e w3 ⟨rfl, hu3⟩; exact read_panics w (w1.alloc (.cells #[.int .u8 0, .int .i64 0, .string ⟨#[]⟩, .slice none 0 0, .bool false] 58)) w3 pb tg tc A es.length c es i m _ _ _ er ea hy.out HA.out hu3 _)
                exact AllReady.nil
              exact AllReady.nil
            refine AllReady.cons rfl (fun K hK => ?_) ?_
            · (go_simp; refine (HD.out _ HA.out.par HA.out.toks).mono ?_; rintro e w3 ⟨rfl, hu3⟩; exact read_panics w (w1.alloc (.cells #[.int .u8 0, .int .i64 0, .string ⟨#[]⟩, .slice none 0 0, .bool false] 58)) w3 pb tg tc A es.length c es i m _ _ _ er ea hy.out HA.out hu3 _)
            exact AllReady.nil
          exact AllReady.nil
        refine AllReady.cons rfl (fun K hK => ?_) ?_
        · go_simp
          refine hK _ _ ?_
          clear hK K
          refine wpAny_ready (rs := [0, 1]) (by kernel_rfl) (by simp) ?_
          refine AllReady.cons rfl (fun K hK => ?_) ?_
          · go_simp
            refine hK _ _ ?_
            clear hK K
            refine wpAny_ready (rs := [1, 3]) (by kernel_rfl) (by simp) ?_
            refine AllReady.cons rfl (fun K hK => ?_) ?_
            · go_simp
              refine hK _ _ ?_
              clear hK K
              refine wpAny_ready (rs := [2, 3]) (by kernel_rfl) (by simp) ?_
              refine AllReady.cons rfl (fun K hK => ?_) ?_
              · (go_simp; refine (HD.out _ HA.out.par HA.out.toks).mono ?_; rintro e w3 ⟨rfl, hu3⟩; exact read_panics w (w1.alloc (.cells #[.int .u8 0, .int .i64 0, .string ⟨#[]⟩, .slice none 0 0, .bool false] 58)) w3 pb tg tc A es.length c es i m _ _ _ er ea hy.out HA.out hu3 _)
              refine AllReady.cons rfl (fun K hK => ?_) ?_
              · go_simp
                refine hK _ _ ?_
                clear hK K
                refine wpAny_ready (rs := [2]) (by kernel_rfl) (by simp) ?_
                refine AllReady.cons rfl (fun K hK => ?_) ?_
                · (go_simp; refine (HD.out _ HA.out.par HA.out.toks).mono ?_; rintro e w3 ⟨rfl, hu3⟩; exact read_panics w (w1.alloc (.cells #[.int .u8 0, .int .i64 0, .string ⟨#[]⟩, .slice none 0 0, .bool false] 58)) w3 pb tg tc A es.length c es i m _ _ _ er ea hy.out HA.out hu3 _)
                exact AllReady.nil
              exact AllReady.nil
            refine AllReady.cons rfl (fun K hK => ?_) ?_
            · go_simp
              refine hK _ _ ?_
              clear hK K
              refine wpAny_ready (rs := [1]) (by kernel_rfl) (by simp) ?_
              refine AllReady.cons rfl (fun K hK => ?_) ?_
              · go_simp
                refine hK _ _ ?_
                clear hK K
                refine wpAny_ready (rs := [2]) (by kernel_rfl) (by simp) ?_
                refine AllReady.cons rfl (fun K hK => ?_) ?_
                · (go_simp; refine (HD.out _ HA.out.par HA.out.toks).mono ?_; rintro e w3 ⟨rfl, hu3⟩; exact read_panics w (w1.alloc (.cells #[.int .u8 0, .int .i64 0, .string ⟨#[]⟩, .slice none 0 0, .bool false] 58)) w3 pb tg tc A es.length c es i m _ _ _ er ea hy.out HA.out hu3 _)
                exact AllReady.nil
              exact AllReady.nil
            exact AllReady.nil
          refine AllReady.cons rfl (fun K hK => ?_) ?_
          · go_simp
            refine hK _ _ ?_
            clear hK K
            refine wpAny_ready (rs := [0, 2]) (by kernel_rfl) (by simp) ?_
            refine AllReady.cons rfl (fun K hK => ?_) ?_
            · go_simp
              refine hK _ _ ?_
              clear hK K
              refine wpAny_ready (rs := [2, 3]) (by kernel_rfl) (by simp) ?_
              refine AllReady.cons rfl (fun K hK => ?_) ?_
              · (go_simp; refine (HD.out _ HA.out.par HA.out.toks).mono ?_; rintro e w3 ⟨rfl, hu3⟩; exact read_panics w (w1.alloc (.cells #[.int .u8 0, .int .i64 0, .string ⟨#[]⟩, .slice none 0 0, .bool false] 58)) w3 pb tg tc A es.length c es i m _ _ _ er ea hy.out HA.out hu3 _)
              refine AllReady.cons rfl (fun K hK => ?_) ?_
              · go_simp
                refine hK _ _ ?_
                clear hK K
                refine wpAny_ready (rs := [2]) (by kernel_rfl) (by simp) ?_
                refine AllReady.cons rfl (fun K hK => ?_) ?_
                · (go_simp; refine (HD.out _ HA.out.par HA.out.toks).mono ?_; rintro e w3 ⟨rfl, hu3⟩; exact read_panics w (w1.alloc (.cells #[.int .u8 0, .int .i64 0, .string ⟨#[]⟩, .slice none 0 0, .bool false] 58)) w3 pb tg tc A es.length c es i m _ _ _ er ea hy.out HA.out hu3 _)
                exact AllReady.nil
              exact AllReady.nil
            refine AllReady.cons rfl (fun K hK => ?_) ?_
            · (go_simp; refine (HD.out _ HA.out.par HA.out.toks).mono ?_; rintro e w3 ⟨rfl, hu3⟩; exact read_panics w (w1.alloc (.cells #[.int .u8 0, .int .i64 0, .string ⟨#[]⟩, .slice none 0 0, .bool false] 58)) w3 pb tg tc A es.length c es i m _ _ _ er ea hy.out HA.out hu3 _)
            exact AllReady.nil
          exact AllReady.nil
        exact AllReady.nil
      | ok x j k =>
        have hrr := HR1'.out x j k rfl
        have hbb := Hbd.out x j k rfl
        have HRR := Lib.hid hrr
        have HBB := Lib.hid hbb
        have m3 : es.length + 1 ≤ maxLen := by unfold maxLen; omega
        have m4 : (es.length + 1) * 64 ≤ 140737488355328 := by omega
        have e0 : (0 : Int) ≤ es.length := by omega
        have e1 : (es.length : Int) < es.length + 1 := by omega
        replace m3 := Lib.hid m3
        replace m4 := Lib.hid m4
        clear hrr hbb hki
        refine wp_region_noPanic ?_
        go_region_law (first
          | (go_simp; go_at_call 54; (refine (HD.out _ HM.out.par HM.out.toks).mono ?_; rintro e w3 ⟨kv2, bs2, rfl, hp3, hu3, hw3, hnd3⟩; obtain ⟨A2, c2, rfl, hAA⟩ := hw3.len; clear hAA; have HC := Lib.hid (HM.out.call hy.out hp3 hu3 hw3 hnd3); have hlt3 := (Array.getElem?_eq_some_iff.1 HC.out.out).1; obtain ⟨b0, bf0⟩ := blk1 HC.out.out; have b0A := (World.cell?_alloc_lt w3 (.cells #[.int .u8 0, .int .i64 0, .string ⟨#[]⟩, .slice none 0 0, .bool false] 58) ⟨w.heap.size, 0, none⟩ hlt3).trans b0; clear hp3 hu3 hw3 hnd3; unfold datV))
          | (go_simp; go_at_call 54; (refine (HD.out _ HA.out.par HA.out.toks).mono ?_; rintro e w3 ⟨kv2, bs2, rfl, hp3, hu3, hw3, hnd3⟩; obtain ⟨A2, c2, rfl, hAA⟩ := hw3.len; clear hAA; have HC := Lib.hid (HA.out.call hy.out hp3 hu3 hw3 hnd3); have HB := Lib.hid (hu3.heap (heap_alloc_new w1 (.cells #[.int .u8 0, .int .i64 0, .string ⟨#[]⟩, .slice none 0 0, .bool false] 58)) (show ¬ w1.heap.size = pb by have := HM.out.par.lt; simp at this; omega)); obtain ⟨b0, bf0⟩ := blk1 HC.out.out; clear hp3 hu3 hw3 hnd3; unfold datV))
          | ((refine step_append_row (w3.alloc (.cells #[.int .u8 0, .int .i64 0, .string ⟨#[]⟩, .slice none 0 0, .bool false] 58)) (by rfl) (.tmp 24) (.tmp 28) 23 (by rfl) (pb + 1) 58 i0 _ 5 64 Try.underlying23 hi0 hz0 hz1 hz2 rfl (by decide) (.slice A es.length c) es.length (elCells es) (by rfl) (HC.out.new ((Upd.refl (fun _ => False) w3).alloc (.cells #[.int .u8 0, .int .i64 0, .string ⟨#[]⟩, .slice none 0 0, .bool false] 58))).row (.slice (some ⟨w3.heap.size, 0, none⟩) 1 1) 1 [.int .u8 0, .int .i64 0, .string ⟨#[]⟩, .slice none 0 0, .bool false] (by rfl) (.inr ⟨w3.heap.size, 1, rfl, rfl, World.news_of_block (heap_alloc_new w3 (.cells #[.int .u8 0, .int .i64 0, .string ⟨#[]⟩, .slice none 0 0, .bool false] 58))⟩) zero_one m3.out m4.out (by have := HC.out.par.lt; simp; omega) ?_); (intro v1 w4 ho4 hg4 hat4; obtain ⟨G, c1, rfl⟩ := own_some ho4 (Nat.succ_pos _); have HT4 := Lib.hid (second_some hy.out HC.out hg4 ho4 hat4); obtain ⟨⟨d0, d1, d2, d3, d4⟩, df⟩ := row_cells ho4; obtain ⟨x0, xf0⟩ := blk1 HT4.out.out; have hGn : G ≠ w.heap.size := (by have h1 := (own_lt ho4 G rfl).1; have h2 := hy.out; unfold Lay at h2; omega); have hGn' := Ne.symm hGn; clear ho4 hg4 hat4))
          | ((refine step_append_row (w3) (by rfl) (.tmp 24) (.tmp 28) 23 (by rfl) (pb + 1) 58 i0 _ 5 64 Try.underlying23 hi0 hz0 hz1 hz2 rfl (by decide) (.slice A es.length c) es.length (elCells es) (by rfl) HC.out.row (.slice (some ⟨w1.heap.size, 0, none⟩) 1 1) 1 [.int .u8 0, .int .i64 0, .string ⟨#[]⟩, .slice none 0 0, .bool false] (by rfl) (.inr ⟨w1.heap.size, 1, rfl, rfl, World.news_of_block (HB.out)⟩) zero_one m3.out m4.out (by have := HC.out.par.lt; omega) ?_); (intro v1 w4 ho4 hg4 hat4; obtain ⟨G, c1, rfl⟩ := own_some ho4 (Nat.succ_pos _); have HT4 := Lib.hid (first_some hy.out HC.out hg4 ho4 hat4); obtain ⟨⟨d0, d1, d2, d3, d4⟩, df⟩ := row_cells ho4; obtain ⟨x0, xf0⟩ := blk1 HT4.out.out; have hGn : G ≠ w.heap.size := (by have h1 := (own_lt ho4 G rfl).1; have h2 := hy.out; unfold Lay at h2; omega); have hGn' := Ne.symm hGn; clear ho4 hg4 hat4)))
        all_goals
          have hnx := top_next (i := 0) (m := 0) (m0 := 0) hy.out ⟨HR.out.fuel, HR.out.len⟩ HBB.out.1 HBB.out.2.1 (HBB.out.2.2.2 HR.out.many) HRR.out HT4.out
          rw [set5_comm hGn] at hnx
          have HNX := Lib.hid hnx
          clear hnx
          change Exit.inBlock 1 _ Exit.normal _ _
          try rw [set5_comm hGn]
          generalize ((((((w4.setCell ⟨w.heap.size, 0, none⟩ (.slice (some ⟨G, 0, none⟩) (es.length + 1) c1)).setCell ⟨G, es.length * 5, none⟩ (.int .u8 x.k)).setCell ⟨G, es.length * 5 + 1, none⟩ (.int .i64 x.n)).setCell ⟨G, es.length * 5 + 2, none⟩ (.string x.t)).setCell ⟨G, es.length * 5 + 3, none⟩ (.slice A2 x.kids.length c2)).setCell ⟨G, es.length * 5 + 4, none⟩ (.bool x.dot)) = W5 at *
          clear HT4 df d0 d1 d2 d3 d4 x0 xf0 b0 bf0 a0 f0 a0A HM HA HC
          go_wp2_with fail
          go_roundg g
          case measure => omega
          case rel => exact ⟨by omega, j, k, _, _, _, HNX.out⟩
end Go.Proofs.Ytnnjhafjcdjobaa
