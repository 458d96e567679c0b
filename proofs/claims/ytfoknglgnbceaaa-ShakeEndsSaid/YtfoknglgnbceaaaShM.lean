import Derived.Test.YtfoknglgnbceaaaShK
import Derived.Laws.MakeOwn
namespace Go.Proofs.Ytfoknglgnbceaaa
open Go.RowKit

/-! The plain part. -/
def cnt (S : Nat → Bool) : Nat → Nat
  | 0 => 0
  | n + 1 => cnt S n + if S n then 1 else 0
theorem cnt_le (S : Nat → Bool) (n : Nat) : cnt S n ≤ n := by
  induction n with
  | zero => simp [cnt]
  | succ n ih => simp only [cnt]; split <;> omega
theorem cnt_congr (S T : Nat → Bool) (n : Nat) (h : ∀ i, i < n → S i = T i) : cnt S n = cnt T n := by
  induction n with
  | zero => rfl
  | succ n ih => simp only [cnt]; rw [ih (fun i hi => h i (by omega)), h n (by omega)]
theorem cnt_put (S : Nat → Bool) (n k : Nat) (hk : k < n) (hs : S k = false) : cnt (put S k true) n = cnt S n + 1 := by
  induction n with
  | zero => omega
  | succ n ih =>
    simp only [cnt]
    by_cases e : k = n
    · subst e
      rw [cnt_congr (put S k true) S k (fun i hi => put_other _ _ _ _ (by omega)), put_same, hs]; simp
    · rw [ih (by omega), put_other _ _ _ _ (by omega : n ≠ k)]; omega
theorem leftFrom_spec (f : Nat → Bool) (d : Nat) : ∀ i, (leftFrom f i d = 0 ∧ ∀ j, i ≤ j → j < i + d → f j = true) ∨ ∃ j, i ≤ j ∧ j < i + d ∧ leftFrom f i d = j + 1 ∧ f j = false := by
  induction d with
  | zero => intro i; exact .inl ⟨rfl, fun j h1 h2 => by omega⟩
  | succ d ih =>
    intro i
    simp only [leftFrom]
    by_cases h : f i = true
    · rw [if_pos h]
      rcases ih (i + 1) with ⟨h1, h2⟩ | ⟨j, h1, h2, h3, h4⟩
      · refine .inl ⟨h1, fun j q1 q2 => ?_⟩
        by_cases e : j = i
        · subst e; exact h
        · exact h2 j (by omega) (by omega)
      · exact .inr ⟨j, by omega, by omega, h3, h4⟩
    · rw [if_neg h]
      exact .inr ⟨i, by omega, by omega, rfl, by simpa using h⟩
theorem scB_at {S : Nat → Bool} {n j : Nat} (h : j < n) : scB S n true ((j : Int) + 1) = S j := by
  simp [scB, isB_in h]
theorem left_spec (S : Nat → Bool) (n : Nat) : (leftS S n true = 0 ∧ ∀ j, j < n → S j = true) ∨ ∃ j, j < n ∧ leftS S n true = j + 1 ∧ S j = false := by
  rcases leftFrom_spec (fun i : Nat => scB S n true ((i : Int) + 1)) n 0 with ⟨h1, h2⟩ | ⟨j, h1, h2, h3, h4⟩
  · refine .inl ⟨h1, fun j hj => ?_⟩
    have := h2 j (by omega) (by omega)
    rwa [scB_at hj] at this
  · refine .inr ⟨j, by omega, h3, ?_⟩
    rwa [scB_at (by omega)] at h4
theorem left_ne (S : Nat → Bool) (n j : Nat) (hj : j < n) (hs : S j = false) : leftS S n true ≠ 0 := by
  rcases left_spec S n with ⟨_, h⟩ | ⟨i, _, h, _⟩
  · rw [h j hj] at hs; cases hs
  · omega

/-! Contracts with the outcome known. -/
theorem lay_ok (b : Nat) (t : Int) (n : Nat) (S A : Nat → Bool) (inn : Bool) (w : World) (h : ShAt w b S A n inn) (hk : isB n t = true ∧ scB S n inn t = false) :
    Calls Try.prog 17 #[.pointer (some ⟨b, 0, none⟩), .int .i64 t] w fun e w' => e = .returned (.int .i64 0) ∧ ShAt w' b (put S (t.toNat - 1) true) (put A (t.toNat - 1) false) n inn ∧ Upd (fun k => k = b) w w' :=
  (lay_calls b t n S A inn w h).mono fun e w' hx => by
    rcases hx with ⟨_, _, h1, h2, h3⟩ | ⟨hx, _⟩
    · exact ⟨h1, h2, h3⟩
    · exact absurd hk hx
theorem lay_bad (b : Nat) (t : Int) (n : Nat) (S A : Nat → Bool) (inn : Bool) (w : World) (h : ShAt w b S A n inn) (hk : ¬ (isB n t = true ∧ scB S n inn t = false)) :
    Calls Try.prog 17 #[.pointer (some ⟨b, 0, none⟩), .int .i64 t] w fun e w' => e = .returned (.int .i64 140) ∧ w = w' :=
  (lay_calls b t n S A inn w h).mono fun e w' hx => by
    rcases hx with ⟨x, y, _⟩ | ⟨_, h1, h2⟩
    · exact absurd ⟨x, y⟩ hk
    · exact ⟨h1, h2⟩
theorem end_ok (b : Nat) (n : Nat) (S A : Nat → Bool) (w : World) (h : ShAt w b S A n true) (hk : leftS S n true = 0) :
    Calls Try.prog 15 #[.pointer (some ⟨b, 0, none⟩)] w fun e w' => e = .returned (.int .i64 0) ∧ ShAt w' b S A n false ∧ Upd (fun k => k = b) w w' :=
  (end_calls b n S A true w h).mono fun e w' hx => by
    rcases hx with ⟨_, _, h1, h2, h3⟩ | ⟨hx, _⟩
    · exact ⟨h1, h2, h3⟩
    · exact absurd ⟨rfl, hk⟩ hx
theorem end_bad (b : Nat) (n : Nat) (S A : Nat → Bool) (inn : Bool) (w : World) (h : ShAt w b S A n inn) (hk : ¬ (inn = true ∧ leftS S n inn = 0)) :
    Calls Try.prog 15 #[.pointer (some ⟨b, 0, none⟩)] w fun e w' => e = .returned (.int .i64 140) ∧ w = w' :=
  (end_calls b n S A inn w h).mono fun e w' hx => by
    rcases hx with ⟨x, y, _⟩ | ⟨_, h1, h2⟩
    · exact absurd ⟨x, y⟩ hk
    · exact ⟨h1, h2⟩
theorem ask_any (b : Nat) (t : Int) (n : Nat) (S A : Nat → Bool) (inn : Bool) (w : World) (h : ShAt w b S A n inn) :
    Calls Try.prog 16 #[.pointer (some ⟨b, 0, none⟩), .int .i64 t] w fun e w' => (∃ x, e = .returned (.int .i64 x)) ∧ (∃ A', ShAt w' b S A' n inn) ∧ Upd (fun k => k = b) w w' :=
  (ask_calls b t n S A inn w h).mono fun e w' hx => by
    rcases hx with ⟨_, _, _, h1, h2, h3⟩ | ⟨_, h1, rfl⟩
    · exact ⟨⟨_, h1⟩, ⟨_, h2⟩, h3⟩
    · exact ⟨⟨_, h1⟩, ⟨_, h⟩, Upd.refl _ _⟩

theorem pick_calls (c : Int) (m : Int) (w : World) (h1 : -9223372036854775808 ≤ c) (h2 : c ≤ 9223372036854775807) (hm : 0 < m) (hm2 : m ≤ 9223372036854775807) :
    Calls Try.prog 10 #[.int .i64 c, .int .i64 m] w fun e w' => (∃ r : Nat, (r : Int) < m ∧ e = .returned (.int .i64 r)) ∧ w = w' := by
  have fin : ∀ x : Int, 0 ≤ x → ∃ r : Nat, (r : Int) < m ∧ x % m = r := fun x hx => ⟨(x % m).toNat, by have := Int.emod_lt_of_pos x hm; have := Int.emod_nonneg x (show m ≠ 0 by omega); omega, by have := Int.emod_nonneg x (show m ≠ 0 by omega); omega⟩
  by_cases hc : c < 0
  · obtain ⟨r, hr, he0⟩ := fin (-(c + 1)) (by omega)
    have he : -((c + 1).tmod m) = r := by rw [← Int.neg_tmod, Int.tmod_eq_emod_of_nonneg (by omega)]; exact he0
    clear he0
    have He := Lib.hid he
    clear he fin
    have hmz : (m == 0) = false := by rw [beq_eq_false_iff_ne]; omega
    go_enter Try.func10, Try.ntmps10
    go_wp2
    go_ret
    exact ⟨⟨r, hr, ret_int' He.out⟩, rfl⟩
  · obtain ⟨r, hr, he⟩ := fin c (by omega)
    have He := Lib.hid he
    clear he fin
    have hmz : (m == 0) = false := by rw [beq_eq_false_iff_ne]; omega
    go_enter Try.func10, Try.ntmps10
    go_wp2
    go_ret
    exact ⟨⟨r, hr, ret_int' He.out⟩, rfl⟩
end Go.Proofs.Ytfoknglgnbceaaa
