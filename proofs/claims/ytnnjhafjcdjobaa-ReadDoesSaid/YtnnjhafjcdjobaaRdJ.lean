/- Read: what is deferred. -/
import Derived.Test.YtnnjhafjcdjobaaRdI
import Derived.BigRegion
import Derived.Defers
import Derived.Recover
namespace Go.Proofs.Ytnnjhafjcdjobaa
open Go.RowKit
set_option linter.unusedVariables false
set_option linter.unusedSimpArgs false

theorem blk1 {w : World} {b : Nat} {t : TypeId} {v0 : Value} (h : w.heap[b]? = some (.cells #[v0] t (0, 0))) : w.cell? ⟨b, 0, none⟩ = some v0 ∧ w.frozen? ⟨b, 0, none⟩ = false := by
  refine ⟨?_, ?_⟩ <;> simp [World.cell?, World.frozen?, h]
theorem bset1 {w : World} {g : Nat} {t : TypeId} {c0 : Value} (h : w.heap[g]? = some (.cells #[c0] t (0, 0))) (u : Value) : (w.setCell ⟨g, 0, none⟩ u).heap[g]? = some (.cells #[u] t (0, 0)) := by
  have := bset h 0 u
  simpa using this
theorem assert_nil (w : World) : (Instr.typeAssert .nilIface 20 106 true).run Try.prog w = .ok (.tuple #[.agg #[.int .i64 0, .int .i64 0], .bool false]) w := by kernel_rfl
theorem assert_wrong (x y : Int) (w : World) : (Instr.typeAssert (.iface 106 (.agg #[.int .i64 x, .int .i64 y])) 20 106 true).run Try.prog w = .ok (.tuple #[.agg #[.int .i64 x, .int .i64 y], .bool true]) w := by kernel_rfl
theorem catch_idle (B0 B1 B2 : Nat) (w : World) :
    CallsD Try.prog 52 #[.pointer (some ⟨B0, 0, none⟩), .pointer (some ⟨B1, 0, none⟩), .pointer (some ⟨B2, 0, none⟩)] .returning w fun e u' w' => e = .returned (.tuple #[]) ∧ u' = .returning ∧ New w w' := by
  refine callsD_of_wpS Try.func52 rfl fun c₀ cs hu => ?_
  apply wpS_seq
  apply wpS_region
  simp [wpOpsS, go_sem, recoverD, hu, Try.ntmps52, Exit.thenS, assert_nil, assert_wrong]
  refine wpS_of_wp ?_
  change Code.wp Try.prog _ _ ⟨#[.pointer (some ⟨B0, 0, none⟩), .pointer (some ⟨B1, 0, none⟩), .pointer (some ⟨B2, 0, none⟩), .pointer (some ⟨w.heap.size, 0, none⟩), .bool false, .tuple #[.agg #[.int .i64 0, .int .i64 0], .bool false], .nilIface, .tuple #[.agg #[.int .i64 0, .int .i64 0], .bool false], .agg #[.int .i64 0, .int .i64 0], .bool false, undef, undef, undef, undef, undef], []⟩ _
  go_wp2_with fail
  exact ⟨rfl, .returning, by cases c₀; simp_all, _, by simp [results, Try.results52], rfl, rfl, (Upd.refl _ w).alloc _⟩
theorem wp_tmps {P : Program} {c : Code} {Q : Exit → Act → World → Prop} {t t' : Array Value} {d : List Deferred} {w : World} (h : t = t') (hw : c.wp P Q ⟨t', d⟩ w) : c.wp P Q ⟨t, d⟩ w := by rw [h]; exact hw
set_option maxHeartbeats 1000000 in
theorem catch_panicking (B0 B1 B2 : Nat) (hd01 : B0 ≠ B1) (hd02 : B0 ≠ B2) (hd12 : B1 ≠ B2) (er a : Int) (w : World) (t0 t1 t2 : TypeId) (v0 v1 v2 : Value) (h0 : w.heap[B0]? = some (.cells #[v0] t0 (0, 0))) (h1 : w.heap[B1]? = some (.cells #[v1] t1 (0, 0))) (h2 : w.heap[B2]? = some (.cells #[v2] t2 (0, 0))) :
    CallsD Try.prog 52 #[.pointer (some ⟨B0, 0, none⟩), .pointer (some ⟨B1, 0, none⟩), .pointer (some ⟨B2, 0, none⟩)] (.panicking (wrongC er a)) w fun e u' w' =>
      e = .returned (.tuple #[]) ∧ u' = .panicking [{ v := .iface 106 (.agg #[.int .i64 er, .int .i64 a]), recovered := true }] ∧ Upd (fun b => b = B0 ∨ b = B1 ∨ b = B2) w w' ∧ w'.heap[B0]? = some (.cells #[.slice none 0 0] t0 (0, 0)) ∧ w'.heap[B1]? = some (.cells #[.int .i64 er] t1 (0, 0)) ∧ w'.heap[B2]? = some (.cells #[.int .i64 a] t2 (0, 0)) := by
  unfold wrongC
  refine callsD_of_wpS Try.func52 rfl fun c₀ cs hu => ?_
  apply wpS_seq
  apply wpS_region
  simp [wpOpsS, go_sem, recoverD, hu, Try.ntmps52, Exit.thenS, assert_nil, assert_wrong]
  refine wpS_of_wp ?_
  refine wp_tmps (t' := #[.pointer (some ⟨B0, 0, none⟩), .pointer (some ⟨B1, 0, none⟩), .pointer (some ⟨B2, 0, none⟩), .pointer (some ⟨w.heap.size, 0, none⟩), .bool true, .tuple #[.agg #[.int .i64 er, .int .i64 a], .bool true], .iface 106 (.agg #[.int .i64 er, .int .i64 a]), .tuple #[.agg #[.int .i64 er, .int .i64 a], .bool true], .agg #[.int .i64 er, .int .i64 a], .bool true, undef, undef, undef, undef, undef]) (by simp [Array.replicate]) ?_
  have l0 := (Array.getElem?_eq_some_iff.1 h0).1
  have l1 := (Array.getElem?_eq_some_iff.1 h1).1
  have l2 := (Array.getElem?_eq_some_iff.1 h2).1
  have hbx := heap_alloc_new w (.cells #[.int .i64 er, .int .i64 a] 106)
  have g0 := halloc h0 (.cells #[.int .i64 er, .int .i64 a] 106)
  have g1 := halloc h1 (.cells #[.int .i64 er, .int .i64 a] 106)
  have g2 := halloc h2 (.cells #[.int .i64 er, .int .i64 a] 106)
  have hup : Upd (fun b => b = B0 ∨ b = B1 ∨ b = B2) w (w.alloc (.cells #[.int .i64 er, .int .i64 a] 106)) := (Upd.refl _ w).alloc _
  have n0 : ¬ B0 = w.heap.size := by omega
  have n1 : ¬ B1 = w.heap.size := by omega
  have n2 : ¬ B2 = w.heap.size := by omega
  clear h0 h1 h2 l0 l1 l2
  generalize w.alloc (.cells #[.int .i64 er, .int .i64 a] 106) = W at *
  generalize w.heap.size = bx at *
  obtain ⟨a0, f0⟩ := blk1 g0
  obtain ⟨a1, f1⟩ := blk1 g1
  obtain ⟨a2, f2⟩ := blk1 g2
  have hb0 : W.cell? ⟨bx, 0, none⟩ = some (.int .i64 er) := by simp [World.cell?, hbx]
  have hb1 : W.cell? ⟨bx, 1, none⟩ = some (.int .i64 a) := by simp [World.cell?, hbx]
  have H0 := Lib.hid g0
  have H1 := Lib.hid g1
  have H2 := Lib.hid g2
  have HU := Lib.hid hu
  have HUP := Lib.hid hup
  clear g0 g1 g2 hu hbx hup
  go_wp2_with fail
  go_region_held3 (fun w' => w'.cell? ⟨bx, 0, none⟩ = some (.int .i64 er) ∧ w'.cell? ⟨bx, 1, none⟩ = some (.int .i64 a)) (go_keep) (fail)
  all_goals
    refine ⟨rfl, _, rfl, _, by simp [results, Try.results52], rfl, rfl, ?_, ?_, ?_, ?_⟩
    · exact (((HUP.out.set (b := B0) (.inl rfl) _).set (b := B1) (.inr (.inl rfl)) _).set (b := B2) (.inr (.inr rfl)) _).drew
    · exact bother (bother (bset1 H0.out _) hd01 _) hd02 _
    · exact bother (bset1 (bother H1.out (Ne.symm hd01) _) _) hd12 _
    · exact bset1 (bother (bother H2.out (Ne.symm hd02) _) (Ne.symm hd12) _) _
end Go.Proofs.Ytnnjhafjcdjobaa
