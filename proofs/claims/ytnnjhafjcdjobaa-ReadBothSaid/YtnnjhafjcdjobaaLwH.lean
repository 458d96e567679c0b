/- Read: the law ReadBoth, walked: parts. -/
import Derived.Test.YtnnjhafjcdjobaaLwG
import Derived.Test.YtnnjhafjcdjobaaPlF
namespace Go.Proofs.Ytnnjhafjcdjobaa
open Go.RowKit
set_option linter.unusedVariables false
set_option linter.unusedSimpArgs false

/-- What Read answers, whatever the data. -/
def RdAny (s : ByteArray) (er pl : Int) : Prop := ∀ w, Calls Try.prog 16 #[.string s] w fun e w' => ∃ A n c, e = .returned (.tuple #[.slice A n c, .int .i64 er, .int .i64 pl]) ∧ New w w'
theorem RdOk.any {s : ByteArray} {v : List Dat} (h : RdOk s v) : RdAny s 0 0 := fun w => (h w).mono fun e w' ⟨A, c, bs, h1, h2, _⟩ => ⟨A, _, c, h1, h2⟩
theorem RdNo.any {s : ByteArray} {er pl : Int} (h : RdNo s er pl) : RdAny s er pl := fun w => (h w).mono fun e w' ⟨h1, h2⟩ => ⟨none, 0, 0, h1, h2⟩
def TkAny (s : ByteArray) (er pl : Int) : Prop := ∀ w, Calls Try.prog 27 #[.string s] w fun e w' => ∃ A n c, e = .returned (.tuple #[.slice A n c, .int .i64 er, .int .i64 pl]) ∧ New w w'
def TkOk (s : ByteArray) : Prop := ∀ w, Calls Try.prog 27 #[.string s] w fun e w' => ∃ g cap, e = .returned (.tuple #[.slice (some ⟨g, 0, none⟩) (toks s 0).1.length cap, .int .i64 0, .int .i64 0]) ∧ New w w' ∧ Toks w' g (toks s 0).1
theorem tk_ok {s : ByteArray} (hs : Small s) (h : ¬ tokErr s) : TkOk s := fun w => (tokens_good s hs h w).mono fun e w' ⟨g, cap, h1, h2, h3, _⟩ => ⟨g, cap, h1, h2, h3⟩
theorem TkOk.any {s : ByteArray} (h : TkOk s) : TkAny s 0 0 := fun w => (h w).mono fun e w' ⟨g, cap, h1, h2, _⟩ => ⟨_, _, cap, h1, h2⟩
theorem tk_any (s : ByteArray) (hs : Small s) : (¬ tokErr s ∧ TkOk s) ∨ ∃ er pl : Int, (er == 0) = false ∧ (er != 0) = true ∧ TkAny s er pl := by
  by_cases h : tokErr s
  · obtain ⟨er, pl, h0, h1⟩ := tokens_bad s hs h
    exact .inr ⟨er, pl, (by simpa using h0), h0, fun w => (h1 w).mono fun e w' ⟨h1, h2⟩ => ⟨none, 0, 0, h1, h2⟩⟩
  · exact .inl ⟨h, tk_ok hs h⟩
set_option maxHeartbeats 1000000 in
/-- Read of a text that has no tokens: the lexer's error. -/
theorem read_lex (s : ByteArray) (hs : Small s) (hm : decide ((65536 : Int) < s.size) = false) (h : (toks s 0).2.1 ≠ 0) : RdNo s (toks s 0).2.1 (toks s 0).2.2 := by
  intro w
  have h12 : ∀ w, Calls Try.prog 27 #[.string s] w fun e w' => e = .returned (.tuple #[.slice none 0 0, .int .i64 (toks s 0).2.1, .int .i64 (toks s 0).2.2]) ∧ New w w' := fun w =>
    (tokens_calls s hs hm w).mono fun e w' ⟨hn, h2⟩ => by
      rcases h2 with ⟨_, h2⟩ | ⟨h2, _⟩
      · exact ⟨h2, hn⟩
      · exact absurd h2 h
  have H12 := Lib.hid h12
  have e0 : ((toks s 0).2.1 != 0) = true := by simpa using h
  generalize (toks s 0).2.1 = er at *
  generalize (toks s 0).2.2 = pl at *
  clear h12 h
  go_enter_defers Try.func16, Try.ntmps16
  go_wp2_with fail
  refine (H12.out _).mono ?_
  rintro e w1 ⟨rfl, hu⟩
  have h0 := hu.heap (k := w.heap.size) (by exact alloc31 _ _ _ _) (fun x => x)
  have h1 := hu.heap (k := w.heap.size + 1) (by exact alloc32 _ _ _ _) (fun x => x)
  have h2 := hu.heap (k := w.heap.size + 1 + 1) (by exact alloc33 _ _ _ _) (fun x => x)
  have HU := Lib.hid (((((Upd.refl (fun _ => False) w).alloc _).alloc _).alloc _).trans hu)
  obtain ⟨a0, f0⟩ := blk1 h0
  obtain ⟨a1, f1⟩ := blk1 h1
  obtain ⟨a2, f2⟩ := blk1 h2
  have l0 := (Array.getElem?_eq_some_iff.1 h0).1
  have H0 := Lib.hid h0
  have H1 := Lib.hid h1
  have H2 := Lib.hid h2
  clear hu h0 h1 h2
  go_wp2_with fail
  obtain ⟨g0, g1, g2⟩ := store12 H0.out H1.out H2.out (.int .i64 er) (.int .i64 pl)
  have hup : Upd (fun b => b = w.heap.size ∨ b = w.heap.size + 1 ∨ b = w.heap.size + 1 + 1) w ((w1.setCell ⟨w.heap.size + 1, 0, none⟩ (.int .i64 er)).setCell ⟨w.heap.size + 1 + 1, 0, none⟩ (.int .i64 pl)) := ((HU.out.mono (fun _ _ h => h.elim)).set (.inr (.inl rfl)) _).set (.inr (.inr rfl)) _
  generalize (w1.setCell ⟨w.heap.size + 1, 0, none⟩ (.int .i64 er)).setCell ⟨w.heap.size + 1 + 1, 0, none⟩ (.int .i64 pl) = W at *
  have nn : ∀ b, b < w.heap.size → ¬ (b = w.heap.size ∨ b = w.heap.size + 1 ∨ b = w.heap.size + 1 + 1) := by omega
  have hnew : ∀ W', Upd (fun b => b = w.heap.size ∨ b = w.heap.size + 1 ∨ b = w.heap.size + 1 + 1) w W' → New w W' := fun W' h => h.mono (fun b hb x => nn b hb x)
  generalize w.heap.size = B0 at *
  have n01 : ¬ B0 = B0 + 1 := by omega
  have n10 : ¬ B0 + 1 = B0 := by omega
  have n02 : ¬ B0 = B0 + 1 + 1 := by omega
  have n20 : ¬ B0 + 1 + 1 = B0 := by omega
  have n12 : ¬ B0 + 1 = B0 + 1 + 1 := by omega
  have n21 : ¬ B0 + 1 + 1 = B0 + 1 := by omega
  generalize B0 + 1 = B1 at *
  generalize B1 + 1 = B2 at *
  clear a0 f0 a1 f1 a2 f2 l0 H0 H1 H2 HU
  obtain ⟨a0, f0⟩ := blk1 g0
  obtain ⟨a1, f1⟩ := blk1 g1
  obtain ⟨a2, f2⟩ := blk1 g2
  have H0 := Lib.hid g0
  have H1 := Lib.hid g1
  have H2 := Lib.hid g2
  have HUP := Lib.hid hup
  have HN := Lib.hid hnew
  clear g0 g1 g2 hup hnew nn
  go_region_held3 (fun w' => w'.cell? ⟨B0, 0, none⟩ = some (.slice none 0 0) ∧ w'.cell? ⟨B1, 0, none⟩ = some (.int .i64 er) ∧ w'.cell? ⟨B2, 0, none⟩ = some (.int .i64 pl)) (simp [*, World.cell?_setCell_far, World.cell?_setCell_same']) (fail)
  all_goals
    clear a0 f0 a1 f1 a2 f2
    obtain ⟨k0, k1, k2⟩ := set3 H0.out H1.out H2.out n01 n02 n12 (.slice none 0 0) (.int .i64 er) (.int .i64 pl)
    have hup3 := ((HUP.out.set (b := B0) (i := 0) (.inl rfl) (.slice none 0 0)).set (b := B1) (i := 0) (.inr (.inl rfl)) (.int .i64 er)).set (b := B2) (i := 0) (.inr (.inr rfl)) (.int .i64 pl)
    go_wp2_with fail
    exact ⟨_, results_cells3 rfl _ _ B0 B1 B2 _ _ _ rfl rfl rfl (load23 (blk1 k0).1) (load24 (blk1 k1).1) (load3 (blk1 k2).1), rfl, HN.out _ hup3.drew⟩
/-- Reading, by what the text is. -/
theorem read_three (s : ByteArray) (hs : Small s) (hm : s.size ≤ 65536) : ((toks s 0).2.1 = 0 ∧ ∃ l i m, readP (toks s 0).1 = .ok l i m ∧ RdOk s l) ∨ ((toks s 0).2.1 = 0 ∧ ∃ (er : Int) (a : Nat), readP (toks s 0).1 = .bad er a ∧ (er = 60 ∨ er = 61 ∨ er = 62) ∧ RdNo s er a) ∨
    ((toks s 0).2.1 ≠ 0 ∧ ∃ er pl : Int, (er = 50 ∨ er = 51 ∨ er = 52) ∧ RdNo s er pl) := by
  by_cases h : (toks s 0).2.1 = 0
  · have he := tokErr_of hm h
    cases hr : readP (toks s 0).1 with
    | ok l i m => exact .inl ⟨h, l, i, m, rfl, fun w => read_is hs he hr w⟩
    | bad e a => exact .inr (.inl ⟨h, e, a, rfl, code_top _ _ _ _ _ _ _ hr, fun w => read_isnt hs he hr w⟩)
    | out => exact absurd hr (read_fine s he)
  · refine .inr (.inr ⟨h, _, _, ?_, read_lex s hs (decide_eq_false (by omega)) h⟩)
    rcases toks_codes s _ 0 rfl (Nat.zero_le _) with h1 | h1
    · exact absurd h1 h
    · exact h1
/-- What two rows appended hold. -/
theorem sees_row {w : World} {base : Nat} {v : Value} {es : List El} (h : w.ownsRow base 58 5 v es.length (elCells es)) (hn : es.length ≤ 2000000) (hk : ∀ e ∈ es, Sees w All e.kv e.d.kids) : Sees w All v (es.map El.d) := by
  refine .mk v es ?_ hn hk
  rcases h.2 with ⟨rfl, h0⟩ | ⟨g, cap, cur, rfl, hb, hg, _⟩
  · have : es = [] := List.eq_nil_of_length_eq_zero h0
    subst this
    exact .inl ⟨rfl, none, 0, rfl⟩
  · refine .inr ⟨g, 0, cap, rfl, trivial, (Array.getElem?_eq_some_iff.1 hg).1, fun j u hj => ?_⟩
    have := own_cells h j u hj
    rw [addr_add] at this
    exact this
end Go.Proofs.Ytnnjhafjcdjobaa
