/- Read: Read itself. -/
import Derived.Test.YtnnjhafjcdjobaaRdJ
namespace Go.Proofs.Ytnnjhafjcdjobaa
open Go.RowKit
set_option linter.unusedVariables false
set_option linter.unusedSimpArgs false

theorem results_cells3 {P : Program} {fn : Func} {p q r : Tmp} {tp tq tr : TypeId} (h : fn.results = #[.cell p tp, .cell q tq, .cell r tr]) (tmps : Array Value) (w : World) (g0 g1 g2 : Nat) (u v x : Value)
    (hp : tmps.getD p undef = .pointer (some ⟨g0, 0, none⟩)) (hq : tmps.getD q undef = .pointer (some ⟨g1, 0, none⟩)) (hr : tmps.getD r undef = .pointer (some ⟨g2, 0, none⟩))
    (h0 : (loadVar tp ⟨g0, 0, none⟩).run P w = .ok u w) (h1 : (loadVar tq ⟨g1, 0, none⟩).run P w = .ok v w) (h2 : (loadVar tr ⟨g2, 0, none⟩).run P w = .ok x w) :
    (results fn tmps).run P w = .ok (.tuple #[u, v, x]) w := by
  have hp' : tmps[p]?.getD undef = .pointer (some ⟨g0, 0, none⟩) := by simpa using hp
  have hq' : tmps[q]?.getD undef = .pointer (some ⟨g1, 0, none⟩) := by simpa using hq
  have hr' : tmps[r]?.getD undef = .pointer (some ⟨g2, 0, none⟩) := by simpa using hr
  simp [results, h, hp', hq', hr', asAddr, h0, h1, h2]

theorem set3 {w : World} {B0 B1 B2 : Nat} {t0 t1 t2 : TypeId} {v0 v1 v2 : Value} (h0 : w.heap[B0]? = some (.cells #[v0] t0 (0, 0))) (h1 : w.heap[B1]? = some (.cells #[v1] t1 (0, 0))) (h2 : w.heap[B2]? = some (.cells #[v2] t2 (0, 0))) (n01 : ¬ B0 = B1) (n02 : ¬ B0 = B2) (n12 : ¬ B1 = B2) (x y z : Value) :
    (((w.setCell ⟨B0, 0, none⟩ x).setCell ⟨B1, 0, none⟩ y).setCell ⟨B2, 0, none⟩ z).heap[B0]? = some (.cells #[x] t0 (0, 0)) ∧ (((w.setCell ⟨B0, 0, none⟩ x).setCell ⟨B1, 0, none⟩ y).setCell ⟨B2, 0, none⟩ z).heap[B1]? = some (.cells #[y] t1 (0, 0)) ∧ (((w.setCell ⟨B0, 0, none⟩ x).setCell ⟨B1, 0, none⟩ y).setCell ⟨B2, 0, none⟩ z).heap[B2]? = some (.cells #[z] t2 (0, 0)) :=
  ⟨bother (bother (bset1 h0 x) n01 y) n02 z, bother (bset1 (bother h1 (Ne.symm n01) x) y) n12 z, bset1 (bother (bother h2 (Ne.symm n02) x) (Ne.symm n12) y) z⟩
theorem load23 {w : World} {a : Addr} {v : Value} (h : w.cell? a = some v) : (loadVar 23 a).run Try.prog w = .ok v w := by
  simp [loadVar, Try.underlying23, go_sem, h]
theorem load24 {w : World} {a : Addr} {v : Value} (h : w.cell? a = some v) : (loadVar 24 a).run Try.prog w = .ok v w := by
  simp [loadVar, Try.underlying24, go_sem, h]
theorem load3 {w : World} {a : Addr} {v : Value} (h : w.cell? a = some v) : (loadVar 3 a).run Try.prog w = .ok v w := by
  simp [loadVar, Try.underlying3, go_sem, h]

theorem store12 {w : World} {B : Nat} {t0 t1 t2 : TypeId} {v0 v1 v2 : Value} (h0 : w.heap[B]? = some (.cells #[v0] t0 (0, 0))) (h1 : w.heap[B + 1]? = some (.cells #[v1] t1 (0, 0))) (h2 : w.heap[B + 1 + 1]? = some (.cells #[v2] t2 (0, 0))) (u v : Value) :
    ((w.setCell ⟨B + 1, 0, none⟩ u).setCell ⟨B + 1 + 1, 0, none⟩ v).heap[B]? = some (.cells #[v0] t0 (0, 0)) ∧ ((w.setCell ⟨B + 1, 0, none⟩ u).setCell ⟨B + 1 + 1, 0, none⟩ v).heap[B + 1]? = some (.cells #[u] t1 (0, 0)) ∧ ((w.setCell ⟨B + 1, 0, none⟩ u).setCell ⟨B + 1 + 1, 0, none⟩ v).heap[B + 1 + 1]? = some (.cells #[v] t2 (0, 0)) :=
  ⟨bother (bother h0 (by omega) u) (by omega) v, bother (bset1 h1 u) (by omega) v, bset1 (bother h2 (by omega) u) v⟩

set_option maxHeartbeats 1000000 in
theorem read_bad (s : ByteArray) (hs : Small s) (h : tokErr s) : ∃ er pl : Int, (er != 0) = true ∧ ∀ w, Calls Try.prog 16 #[.string s] w fun e w' => e = .returned (.tuple #[.slice none 0 0, .int .i64 er, .int .i64 pl]) ∧ New w w' := by
  obtain ⟨er, pl, e0, h12⟩ := tokens_bad s hs h
  have H12 := Lib.hid h12
  refine ⟨er, pl, e0, fun w => ?_⟩
  clear h12 h
  go_enter_defers Try.func16, Try.ntmps16
  go_wp2_with fail
  refine (H12.out _).mono ?_
  rintro e w1 ⟨rfl, hu⟩
  have h0 := hu.heap (k := w.heap.size) (by exact alloc31 _ _ _ _) (fun x => x)
  have h1 := hu.heap (k := w.heap.size + 1) (by exact alloc32 _ _ _ _) (fun x => x)
  have h2 := hu.heap (k := w.heap.size + 1 + 1) (by exact alloc33 _ _ _ _) (fun x => x)
  have HU := Lib.hid (((((Upd.refl (fun _ => False) w).alloc _).alloc _).alloc _).trans hu)
  obtain ⟨a0, f0⟩ := blk1 h0
  obtain ⟨a1, f1⟩ := blk1 h1
  obtain ⟨a2, f2⟩ := blk1 h2
  have l0 := (Array.getElem?_eq_some_iff.1 h0).1
  have H0 := Lib.hid h0
  have H1 := Lib.hid h1
  have H2 := Lib.hid h2
  clear hu h0 h1 h2
  go_wp2_with fail
  obtain ⟨g0, g1, g2⟩ := store12 H0.out H1.out H2.out (.int .i64 er) (.int .i64 pl)
  have hup : Upd (fun b => b = w.heap.size ∨ b = w.heap.size + 1 ∨ b = w.heap.size + 1 + 1) w ((w1.setCell ⟨w.heap.size + 1, 0, none⟩ (.int .i64 er)).setCell ⟨w.heap.size + 1 + 1, 0, none⟩ (.int .i64 pl)) := ((HU.out.mono (fun _ _ h => h.elim)).set (.inr (.inl rfl)) _).set (.inr (.inr rfl)) _
  generalize (w1.setCell ⟨w.heap.size + 1, 0, none⟩ (.int .i64 er)).setCell ⟨w.heap.size + 1 + 1, 0, none⟩ (.int .i64 pl) = W at *
  have nn : ∀ b, b < w.heap.size → ¬ (b = w.heap.size ∨ b = w.heap.size + 1 ∨ b = w.heap.size + 1 + 1) := by omega
  have hnew : ∀ W', Upd (fun b => b = w.heap.size ∨ b = w.heap.size + 1 ∨ b = w.heap.size + 1 + 1) w W' → New w W' := fun W' h => h.mono (fun b hb x => nn b hb x)
  generalize w.heap.size = B0 at *
  have n01 : ¬ B0 = B0 + 1 := by omega
  have n10 : ¬ B0 + 1 = B0 := by omega
  have n02 : ¬ B0 = B0 + 1 + 1 := by omega
  have n20 : ¬ B0 + 1 + 1 = B0 := by omega
  have n12 : ¬ B0 + 1 = B0 + 1 + 1 := by omega
  have n21 : ¬ B0 + 1 + 1 = B0 + 1 := by omega
  generalize B0 + 1 = B1 at *
  generalize B1 + 1 = B2 at *
  clear a0 f0 a1 f1 a2 f2 l0 H0 H1 H2 HU
  obtain ⟨a0, f0⟩ := blk1 g0
  obtain ⟨a1, f1⟩ := blk1 g1
  obtain ⟨a2, f2⟩ := blk1 g2
  have H0 := Lib.hid g0
  have H1 := Lib.hid g1
  have H2 := Lib.hid g2
  have HUP := Lib.hid hup
  have HN := Lib.hid hnew
  clear g0 g1 g2 hup hnew nn
  go_region_held3 (fun w' => w'.cell? ⟨B0, 0, none⟩ = some (.slice none 0 0) ∧ w'.cell? ⟨B1, 0, none⟩ = some (.int .i64 er) ∧ w'.cell? ⟨B2, 0, none⟩ = some (.int .i64 pl)) (simp [*, World.cell?_setCell_far, World.cell?_setCell_same']) (fail)
  all_goals
    clear a0 f0 a1 f1 a2 f2
    obtain ⟨k0, k1, k2⟩ := set3 H0.out H1.out H2.out n01 n02 n12 (.slice none 0 0) (.int .i64 er) (.int .i64 pl)
    have hup3 := ((HUP.out.set (b := B0) (i := 0) (.inl rfl) (.slice none 0 0)).set (b := B1) (i := 0) (.inr (.inl rfl)) (.int .i64 er)).set (b := B2) (i := 0) (.inr (.inr rfl)) (.int .i64 pl)
    go_wp2_with fail
    exact ⟨_, results_cells3 rfl _ _ B0 B1 B2 _ _ _ rfl rfl rfl (load23 (blk1 k0).1) (load24 (blk1 k1).1) (load3 (blk1 k2).1), rfl, HN.out _ hup3.drew⟩
end Go.Proofs.Ytnnjhafjcdjobaa
