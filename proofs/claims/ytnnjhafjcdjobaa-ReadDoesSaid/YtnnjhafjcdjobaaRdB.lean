/- Read: data in memory of their own. -/
import Derived.Test.YtnnjhafjcdjobaaRdA
import Derived.Deep.RegionHeld3
import Derived.Outline
import Derived.WalkLawsBesides
import Derived.RegionTactic
import Derived.StillTailTactics
namespace Go.Proofs.Ytnnjhafjcdjobaa
open Go.RowKit
set_option linter.unusedVariables false
set_option linter.unusedSimpArgs false

def datV (d : Dat) (kv : Value) : Value := .agg #[.int .u8 d.k, .int .i64 d.n, .string d.t, kv, .bool d.dot]
def datC (d : Dat) (kv : Value) : List Value := [.int .u8 d.k, .int .i64 d.n, .string d.t, kv, .bool d.dot]
structure El where
  d : Dat
  kv : Value
  bs : List Nat
def El.cells (e : El) : List Value := datC e.d e.kv
def elCells (es : List El) : List Value := es.flatMap El.cells
theorem elCells_append (es es2 : List El) : elCells (es ++ es2) = elCells es ++ elCells es2 := by simp [elCells]
theorem elCells_length (es : List El) : (elCells es).length = es.length * 5 := by
  induction es with
  | nil => rfl
  | cons e es ih => simp only [elCells, List.flatMap_cons, List.length_append, List.length_cons] at ih ⊢; rw [ih]; simp [El.cells, datC]; omega

/-- A slice of data whose rows, all of them, are blocks of their own. -/
inductive Own (w : World) (base : Nat) : Value → List Dat → List Nat → Prop
  | mk (v : Value) (es : List El) (h : w.ownsRow base 58 5 v es.length (elCells es)) (hk : ∀ e ∈ es, Own w base e.kv e.d.kids e.bs) : Own w base v (es.map El.d) (v.ownBlock.toList ++ es.flatMap El.bs)
theorem Own.inv {w : World} {base : Nat} {v : Value} {l : List Dat} {bs : List Nat} (h : Own w base v l bs) :
    ∃ es : List El, l = es.map El.d ∧ bs = v.ownBlock.toList ++ es.flatMap El.bs ∧ w.ownsRow base 58 5 v es.length (elCells es) ∧ ∀ e ∈ es, Own w base e.kv e.d.kids e.bs := by
  match h with
  | .mk _ es h hk => exact ⟨es, rfl, rfl, h, hk⟩
theorem Own.nil (w : World) (base : Nat) : Own w base (.slice none 0 0) [] [] := Own.mk (.slice none 0 0) [] ⟨rfl, .inl ⟨rfl, rfl⟩⟩ (by intro e he; simp at he)
theorem Own.blocks {w : World} {base : Nat} {v : Value} {l : List Dat} {bs : List Nat} (h : Own w base v l bs) : ∀ b ∈ bs, base ≤ b ∧ b < w.heap.size := by
  induction h with
  | mk v es h hk ih =>
    intro b hb
    rcases List.mem_append.1 hb with hb | hb
    · exact own_lt h b (by simpa using hb)
    · obtain ⟨e, he, hb⟩ := List.mem_flatMap.1 hb
      exact ih e he b hb
theorem ownsRow_frame {w w' : World} {base : Nat} {e : TypeId} {size : Nat} {v : Value} {n : Nat} {xs : List Value} (h : w.ownsRow base e size v n xs) (hf : ∀ b, v.ownBlock = some b → w'.heap[b]? = w.heap[b]?) : w'.ownsRow base e size v n xs := by
  refine ⟨h.1, ?_⟩
  rcases h.2 with hn | ⟨g, cap, cur, rfl, hb, hgg, rest⟩
  · exact .inl hn
  · exact .inr ⟨g, cap, cur, rfl, hb, (hf g rfl).trans hgg, rest⟩
theorem Own.frame {w w' : World} {base : Nat} {v : Value} {l : List Dat} {bs : List Nat} (h : Own w base v l bs) (hf : ∀ b ∈ bs, w'.heap[b]? = w.heap[b]?) : Own w' base v l bs := by
  induction h with
  | mk v es h hk ih =>
    refine .mk v es (ownsRow_frame h fun b hb => hf b (by simp [hb])) fun e he => ih e he fun b hb => hf b ?_
    exact List.mem_append.2 (.inr (List.mem_flatMap.2 ⟨e, he, hb⟩))
theorem Own.upd {F : Nat → Prop} {w w' : World} {base : Nat} {v : Value} {l : List Dat} {bs : List Nat} (h : Own w base v l bs) (hu : Upd F w w') (hf : ∀ b ∈ bs, ¬ F b) : Own w' base v l bs :=
  h.frame fun b hb => hu.block b (h.blocks b hb).2 (hf b hb)
theorem Own.mono {w : World} {base base' : Nat} {v : Value} {l : List Dat} {bs : List Nat} (h : Own w base v l bs) (hb : base' ≤ base) : Own w base' v l bs := by
  induction h with
  | mk v es h hk ih =>
    refine .mk v es ⟨h.1, ?_⟩ ih
    rcases h.2 with hn | ⟨g, cap, cur, hv, hbb, rest⟩
    · exact .inl hn
    · exact .inr ⟨g, cap, cur, hv, by omega, rest⟩
theorem Own.len {w : World} {base : Nat} {v : Value} {l : List Dat} {bs : List Nat} (h : Own w base v l bs) : ∃ A cap, v = .slice A l.length cap ∧ (0 < l.length → ∃ g, A = some ⟨g, 0, none⟩ ∧ v.ownBlock = some g) := by
  obtain ⟨es, rfl, rfl, hr, hk⟩ := h.inv
  rcases hr.2 with ⟨rfl, h0⟩ | ⟨g, cap, cur, rfl, _⟩
  · exact ⟨none, 0, by simp [h0], by simp [h0]⟩
  · exact ⟨some ⟨g, 0, none⟩, cap, by simp, fun _ => ⟨g, rfl, rfl⟩⟩
theorem own_append {w w1 : World} {base : Nat} {v v1 : Value} (es es2 : List El) (hk : ∀ e ∈ es ++ es2, Own w base e.kv e.d.kids e.bs) (hr : w1.ownsRow base 58 5 v1 (es ++ es2).length (elCells (es ++ es2))) (hg : w.grownBy w1 v.ownBlock)
    (hdis : ∀ b ∈ (es ++ es2).flatMap El.bs, v.ownBlock ≠ some b) : Own w1 base v1 ((es ++ es2).map El.d) (v1.ownBlock.toList ++ (es ++ es2).flatMap El.bs) :=
  .mk v1 _ hr fun e he => (hk e he).frame fun b hb => hg.block b ((hk e he).blocks b hb).2 fun h => hdis b (List.mem_flatMap.2 ⟨e, he, hb⟩) h.symm

/-- The parser's block. -/
def Par (w : World) (pb tg tl tc : Nat) (i o m : Int) : Prop := w.heap[pb]? = some (.cells #[.slice (some ⟨tg, 0, none⟩) tl tc, .int .i64 i, .int .i64 o, .int .i64 m] 110 (0, 0))
theorem Par.lt {w : World} {pb tg tl tc : Nat} {i o m : Int} (h : Par w pb tg tl tc i o m) : pb < w.heap.size := (Array.getElem?_eq_some_iff.1 h).1
theorem tok_kind {w : World} {tg : Nat} {L : List Tok} (h : Toks w tg L) {i : Nat} (hi : i < L.length) : w.cell? ⟨tg, i * 4, none⟩ = some (.int .u8 (tokK L i)) ∧ w.cell? ⟨tg, i * 4 + 1, none⟩ = some (.string (tokT L i)) ∧ w.cell? ⟨tg, i * 4 + 2, none⟩ = some (.int .i64 (tokN L i)) ∧ w.cell? ⟨tg, i * 4 + 3, none⟩ = some (.int .i64 (tokA L i)) := by
  have hx : L[i]? = some L[i] := List.getElem?_eq_getElem hi
  have := h.at_ hx
  simp only [tokK, tokT, tokN, tokA, hx]
  exact this

theorem is_calls (L : List Tok) (w : World) (pb tg tc i : Nat) (o m : Int) (k : Int) (hp : Par w pb tg L.length tc i o m) (ht : Toks w tg L) (hi : i < L.length) (hl : (L.length : Int) ≤ 1048577) :
    Calls Try.prog 53 #[.pointer (some ⟨pb, 0, none⟩), .int .u8 k] w fun e w' => e = .returned (.bool (tokK L i == k)) ∧ New w w' := by
  obtain ⟨z0, z1, z2, z3, zf0, zf1, zf2, zf3⟩ := blk4f hp
  obtain ⟨t0, -, -, -⟩ := tok_kind ht hi
  have i0 : (0 : Int) ≤ i := by omega
  have i1 : (i : Int) < L.length := by omega
  clear hp ht hi
  go_enter Try.func53, Try.ntmps53
  go_wp2_with fail
  go_quiet (fail)
  go_wp2_with fail
  go_ret
  exact ⟨rfl, (Upd.refl _ w).drewN _⟩
/-- What a panic of the parser's bears. -/
def wrongC (e a : Int) : List PanicEntry := [{ v := .iface 106 (.agg #[.int .i64 e, .int .i64 a]), recovered := false }]
set_option maxRecDepth 100000 in
theorem fail_calls (L : List Tok) (w : World) (pb tg tc i : Nat) (o m : Int) (er : Int) (hp : Par w pb tg L.length tc i o m) (ht : Toks w tg L) (hi : i < L.length) (hl : (L.length : Int) ≤ 1048577) :
    Calls Try.prog 102 #[.pointer (some ⟨pb, 0, none⟩), .int .i64 er] w fun e w' => e = .panicked (wrongC er (tokA L i)) ∧ New w w' := by
  obtain ⟨z0, z1, z2, z3, zf0, zf1, zf2, zf3⟩ := blk4f hp
  obtain ⟨-, -, -, t0⟩ := tok_kind ht hi
  have i0 : (0 : Int) ≤ i := by omega
  have i1 : (i : Int) < L.length := by omega
  clear hp ht hi
  go_enter Try.func102, Try.ntmps102
  go_wp2_with fail
  go_still_tail 14, (by kernel_rfl)
  change wpList _ _ _ _ _ w.drew
  go_wp2_with fail
  exact ⟨rfl, rfl, (Upd.refl _ w).drew⟩


theorem par_set {w : World} {pb tg tl tc : Nat} {i o m : Int} (h : Par w pb tg tl tc i o m) :
    (∀ z, Par (w.setCell ⟨pb, 1, none⟩ (.int .i64 z)) pb tg tl tc z o m) ∧ (∀ z, Par (w.setCell ⟨pb, 2, none⟩ (.int .i64 z)) pb tg tl tc i z m) ∧ (∀ z, Par (w.setCell ⟨pb, 3, none⟩ (.int .i64 z)) pb tg tl tc i o z) :=
  ⟨fun z => bset h 1 _, fun z => bset h 2 _, fun z => bset h 3 _⟩
theorem count_ok (w : World) (pb tg tl tc : Nat) (i o : Int) (m n : Nat) (hp : Par w pb tg tl tc i o m) (h : m + n ≤ 10000) :
    Calls Try.prog 103 #[.pointer (some ⟨pb, 0, none⟩), .int .i64 n] w fun e w' => e = .returned (.tuple #[]) ∧ w' = w.setCell ⟨pb, 3, none⟩ (.int .i64 ((m : Int) + n)) := by
  obtain ⟨z0, z1, z2, z3, zf0, zf1, zf2, zf3⟩ := blk4f hp
  have h1 : (m : Int) + n ≤ 10000 := by omega
  have h2 : decide (10000 < m + n) = false := by simp; omega
  have h3 : (0 : Int) ≤ (m : Int) + n := by omega
  clear h hp
  go_enter Try.func103, Try.ntmps103
  go_wp2_with fail
  go_end0
  exact ⟨rfl, rfl⟩

theorem Upd.par {pb : Nat} {w w' : World} (h : New w w') : Upd (fun b => b = pb) w w' := h.mono fun _ _ x => x.elim
theorem count_bad (L : List Tok) (w : World) (pb tg tc i : Nat) (o : Int) (m n : Nat) (hp : Par w pb tg L.length tc i o m) (ht : Toks w tg L) (hi : i < L.length) (hl : (L.length : Int) ≤ 1048577) (hne : tg ≠ pb) (h : 10000 < m + n) (hb : m + n ≤ 20000) :
    Calls Try.prog 103 #[.pointer (some ⟨pb, 0, none⟩), .int .i64 n] w fun e w' => e = .panicked (wrongC 62 (tokA L i)) ∧ Upd (fun b => b = pb) w w' := by
  obtain ⟨z0, z1, z2, z3, zf0, zf1, zf2, zf3⟩ := blk4f hp
  have h2 : decide ((10000 : Int) < (m : Int) + n) = true := by rw [decide_eq_true_iff]; omega
  have h3 : (0 : Int) ≤ (m : Int) + n := by omega
  have h4 : (m : Int) + n ≤ 20000 := by omega
  have hu : Upd (fun b => b = pb) w (w.setCell ⟨pb, 3, none⟩ (.int .i64 ((m : Int) + n))) := (Upd.refl (fun b => b = pb) w).set rfl _
  have hf := fail_calls L (w.setCell ⟨pb, 3, none⟩ (.int .i64 ((m : Int) + n))) pb tg tc i o (m + n) 62 ((par_set hp).2.2 _) ⟨by have := ht.1; simpa using this, fun j u hj => hu.cell (ht.2 j u hj) hne⟩ hi hl
  have HF := Lib.hid hf
  have HU := Lib.hid hu
  clear h hp hf hu ht hi hb
  go_enter Try.func103, Try.ntmps103
  go_wp2_with (go_at_call 102; refine HF.out.mono ?_; rintro e w1 ⟨rfl, hu1⟩)
  exact ⟨rfl, rfl, HU.out.trans (Upd.par hu1)⟩
theorem opens_ok (w : World) (pb tg tl tc : Nat) (i o m n : Nat) (hp : Par w pb tg tl tc i o m) (h : m + n ≤ 10000) (ho : o < 100) (hi : (i : Int) ≤ 1048577) :
    Calls Try.prog 100 #[.pointer (some ⟨pb, 0, none⟩), .int .i64 n] w fun e w' => e = .returned (.tuple #[]) ∧ Par w' pb tg tl tc (i + 1 : Nat) (o + 1 : Nat) (m + n : Nat) ∧ Upd (fun b => b = pb) w w' := by
  obtain ⟨z0, z1, z2, z3, zf0, zf1, zf2, zf3⟩ := blk4f hp
  have hc := Lib.hid (count_ok w pb tg tl tc i o m n hp h)
  have HP := Lib.hid hp
  have ho1 : ¬ (100 : Int) ≤ o := by omega
  have ho2 : decide (100 ≤ o) = false := by simp; omega
  have ho3 : (o : Int) < 100 := by omega
  clear h hp ho
  go_enter Try.func100, Try.ntmps100
  go_wp2_with (go_at_call 103; refine hc.out.mono ?_; rintro e w1 ⟨rfl, rfl⟩)
  go_end0
  refine ⟨rfl, ?_, ?_⟩
  · have h1 := (par_set HP.out).2.2 ((m : Int) + n)
    have h2 := (par_set h1).2.1 ((o : Int) + 1)
    have h3 := (par_set h2).1 ((i : Int) + 1)
    simpa using h3
  · exact (((Upd.refl (fun b => b = pb) w).set rfl _).set rfl _).set rfl _
theorem opens_deep (L : List Tok) (w : World) (pb tg tc i o : Nat) (m : Nat) (n : Int) (hp : Par w pb tg L.length tc i o m) (ht : Toks w tg L) (hi : i < L.length) (hl : (L.length : Int) ≤ 1048577) (ho : 100 ≤ o) :
    Calls Try.prog 100 #[.pointer (some ⟨pb, 0, none⟩), .int .i64 n] w fun e w' => e = .panicked (wrongC 61 (tokA L i)) ∧ Upd (fun b => b = pb) w w' := by
  obtain ⟨z0, z1, z2, z3, zf0, zf1, zf2, zf3⟩ := blk4f hp
  have HF := Lib.hid (fail_calls L w pb tg tc i o m 61 hp ht hi hl)
  have ho2 : (100 : Int) ≤ o := by omega
  clear ho hp ht hi
  go_enter Try.func100, Try.ntmps100
  go_wp2_with (go_at_call 102; refine HF.out.mono ?_; rintro e w1 ⟨rfl, hu1⟩)
  exact ⟨rfl, rfl, Upd.par hu1⟩
theorem opens_much (L : List Tok) (w : World) (pb tg tc i o : Nat) (m n : Nat) (hp : Par w pb tg L.length tc i o m) (ht : Toks w tg L) (hi : i < L.length) (hl : (L.length : Int) ≤ 1048577) (hne : tg ≠ pb) (ho : o < 100) (h : 10000 < m + n) (hb : m + n ≤ 20000) :
    Calls Try.prog 100 #[.pointer (some ⟨pb, 0, none⟩), .int .i64 n] w fun e w' => e = .panicked (wrongC 62 (tokA L i)) ∧ Upd (fun b => b = pb) w w' := by
  obtain ⟨z0, z1, z2, z3, zf0, zf1, zf2, zf3⟩ := blk4f hp
  have HF := Lib.hid (count_bad L w pb tg tc i o m n hp ht hi hl hne h hb)
  have ho2 : decide (100 ≤ o) = false := by simp; omega
  have ho3 : (o : Int) < 100 := by omega
  clear ho hp ht hi h hb
  go_enter Try.func100, Try.ntmps100
  go_wp2_with (go_at_call 103; refine HF.out.mono ?_; rintro e w1 ⟨rfl, hu1⟩)
  exact ⟨rfl, rfl, hu1⟩
end Go.Proofs.Ytnnjhafjcdjobaa
