/- Lex: the law's own functions: alike, bytes, placed. -/
import Derived.Test.YtecoahdeafobkaaLxO
import Derived.Deep.QuietTactic
namespace Go.Proofs.Ytecoahdeafobkaa
open Go.RowKit
set_option linter.unusedVariables false
set_option linter.unusedSimpArgs false

theorem alike_calls (k n a b : Int) (t : ByteArray) (w : World) : Calls Try.prog 15 #[tokV k t n a, tokV k t n b] w fun e w' => e = .returned (.bool true) ∧ New w w' := by
  unfold tokV
  go_enter Try.func15, Try.ntmps15
  go_wp2
  go_ret
  exact ⟨rfl, ((Upd.refl _ w).alloc _).alloc _⟩

theorem bytes_short (s : ByteArray) (hs : Small s) (g m cap i : Nat) (k : Int) (a : Nat) (w : World) (hi : i < m) (ha : a < s.size)
    (c0 : w.cell? ⟨g, i * 4, none⟩ = some (.int .u8 k)) (c3 : w.cell? ⟨g, i * 4 + 3, none⟩ = some (.int .i64 a)) (hk : k = 1 ∨ k = 2 ∨ k = 3) :
    Calls Try.prog 14 #[.string s, .slice (some ⟨g, 0, none⟩) m cap, .int .i64 i] w fun e w' => e = .returned (.string (s.extract a (a + 1))) ∧ w = w' := by
  have hsz := hs.le
  have i0 : (0 : Int) ≤ i := by omega
  have i1 : (i : Int) < m := by omega
  have a0 : (0 : Int) ≤ a := by omega
  have a1 : (a : Int) < s.size := by omega
  have a2 : (a : Int) + 1 ≤ s.size := by omega
  have a3 : (0 : Int) ≤ (a : Int) + 1 := by omega
  have a4 : (a : Int) ≤ (a : Int) + 1 := by omega
  rcases hk with rfl | rfl | rfl
  all_goals
    go_enter Try.func14, Try.ntmps14
    go_wp2
    go_ret
    refine ⟨?_, rfl⟩
    rfl

theorem bytes_long (s : ByteArray) (hs : Small s) (g m cap i : Nat) (k : Int) (a a2 P : Nat) (w : World) (hi : i + 1 < m) (ha : a < s.size)
    (c0 : w.cell? ⟨g, i * 4, none⟩ = some (.int .u8 k)) (c3 : w.cell? ⟨g, i * 4 + 3, none⟩ = some (.int .i64 a)) (c7 : w.cell? ⟨g, (i + 1) * 4 + 3, none⟩ = some (.int .i64 a2))
    (k1 : (k == 1) = false) (k2 : (k == 2) = false) (k3 : (k == 3) = false) (hm : (m : Int) ≤ 1048577)
    (h2 : a2 ≤ s.size) (hP : a < P) (hP2 : P ≤ a2) (hin : ∀ j, a < j → j < P → 32 < at' s j ∧ at' s j ≠ 59) (hst : P = a2 ∨ (at' s P ≤ 32 ∨ at' s P = 59)) :
    Calls Try.prog 14 #[.string s, .slice (some ⟨g, 0, none⟩) m cap, .int .i64 i] w fun e w' => e = .returned (.string (s.extract a P)) ∧ w = w' := by
  have hsz := hs.le
  have i0 : (0 : Int) ≤ i := by omega
  have i1 : (i : Int) < m := by omega
  have i2 : (i : Int) + 1 < m := by omega
  have i3 : (0 : Int) ≤ (i : Int) + 1 := by omega
  have a0 : (0 : Int) ≤ a := by omega
  have a1 : (a : Int) < s.size := by omega
  have Hin := Lib.hid hin
  have Hst := Lib.hid hst
  clear hin hst
  go_enter Try.func14, Try.ntmps14
  go_wp2
  go_loop [8] (fun i => ∃ q : Nat, a < q ∧ q ≤ P ∧ i = .int .i64 q) (fun i => s.size - (intOf i).toNat)
  case atStart => exact ⟨a + 1, by omega, by omega, by simp⟩
  case round =>
    obtain ⟨q, hq1, hq2, rfl⟩ := hrel
    have q0 : (0 : Int) ≤ q := by omega
    by_cases hqa : q < a2
    · have hlt : q < s.size := by omega
      have hv := at_eq s q hlt
      have q1 : (q : Int) < a2 := by omega
      have q2 : (q : Int) < s.size := by omega
      have H1 := Lib.hid (show q < P → 32 < at' s q ∧ at' s q ≠ 59 from fun h => Hin.out q hq1 h)
      have H2 := Lib.hid (show q = P → at' s q ≤ 32 ∨ at' s q = 59 from fun h => by
        rcases Hst.out with x | x
        · omega
        · rw [h]; exact x)
      generalize hc : at' s q = c at *
      clear hc
      by_cases hqP : q < P
      · obtain ⟨b1, b2⟩ := H1.out hqP
        have b2' : (c == 59) = false := by simpa using b2
        clear H1 H2
        go_wp2
        go_round
        case rel => exact ⟨q + 1, by omega, by omega, by go_num⟩
        case measure => simp [intOf]; omega
      · have hqe : q = P := by omega
        have HQ := H2.out hqe
        clear H1 H2
        have p1 : (a : Int) ≤ q := by omega
        have p2 : (q : Int) ≤ s.size := by omega
        have HE := Lib.hid hqe
        clear hqe
        rcases HQ with b1 | rfl
        · have b1' : ¬ 32 < c := by omega
          clear hqP
          go_wp2
          go_ret
          exact ⟨by rw [← HE.out]; rfl, rfl⟩
        · clear hqP
          go_wp2
          go_ret
          exact ⟨by rw [← HE.out]; rfl, rfl⟩
    · have hqe : q = P := by omega
      have p1 : (a : Int) ≤ q := by omega
      have p2 : (q : Int) ≤ s.size := by omega
      have q1 : ¬ (q : Int) < a2 := by omega
      have HE := Lib.hid hqe
      clear hqe
      go_wp2
      go_ret
      exact ⟨by rw [← HE.out]; rfl, rfl⟩
end Go.Proofs.Ytecoahdeafobkaa
