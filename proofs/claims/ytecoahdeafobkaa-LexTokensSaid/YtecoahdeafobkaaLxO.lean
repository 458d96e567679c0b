/- Lex: a token's own bytes. -/
import Derived.Test.YtecoahdeafobkaaLxN
namespace Go.Proofs.Ytecoahdeafobkaa
open Go.RowKit
set_option linter.unusedVariables false
set_option linter.unusedSimpArgs false

theorem wordEnd_word (s : ByteArray) : ∀ n a, s.size - a = n → ∀ j, a ≤ j → j < wordEnd s a → isWI (at' s j) = true := by
  intro n
  induction n with
  | zero => intro a hn j h1 h2; rw [wordEnd, if_neg (fun x => by omega)] at h2; omega
  | succ n ih =>
    intro a hn j h1 h2
    rw [wordEnd] at h2
    split at h2
    · rename_i h
      by_cases hj : j = a
      · subst hj; exact h.2
      · exact ih (a + 1) (by omega) j (by omega) h2
    · omega
theorem wordEnd_stop (s : ByteArray) : ∀ n a, s.size - a = n → a ≤ s.size → wordEnd s a < s.size → isWI (at' s (wordEnd s a)) = false := by
  intro n
  induction n with
  | zero => intro a hn ha h; rw [wordEnd, if_neg (fun x => by omega)] at h; omega
  | succ n ih =>
    intro a hn ha h
    rw [wordEnd] at h ⊢
    split at h
    · rename_i hc
      rw [if_pos hc]
      exact ih (a + 1) (by omega) (by omega) h
    · rename_i hc
      rw [if_neg hc]
      cases hw : isWI (at' s a)
      · rfl
      · exact absurd ⟨h, hw⟩ hc

/-- Where a token is read. -/
def Reads (s : ByteArray) (a p : Nat) (x : Tok) : Prop :=
  a < s.size ∧ x.a = a ∧
  (((at' s a = 40 ∧ x.k = 1 ∨ at' s a = 41 ∧ x.k = 2 ∨ at' s a = 39 ∧ x.k = 3) ∧ x.t = ⟨#[]⟩ ∧ x.n = 0 ∧ p = a + 1) ∨
   (at' s a ≠ 40 ∧ at' s a ≠ 41 ∧ at' s a ≠ 39 ∧ isWI (at' s a) = true ∧ p = wordEnd s (a + 1) ∧ wE (s.extract a p) = 0 ∧ x.k = wK (s.extract a p) ∧ x.t = wT (s.extract a p) ∧ x.n = wN (s.extract a p)))
theorem reads_of (s : ByteArray) (a p : Nat) (x : Tok) (h : tokAt s a = (x, p, 0)) (hk : x.k ≠ 9) : Reads s a p x := by
  unfold tokAt at h
  unfold Reads
  repeat' split at h
  all_goals simp only [Prod.mk.injEq] at h
  all_goals obtain ⟨rfl, rfl, he⟩ := h
  · exact absurd rfl hk
  · rename_i h0 h1; exact ⟨by omega, rfl, .inl ⟨.inl ⟨h1, rfl⟩, rfl, rfl, rfl⟩⟩
  · rename_i h0 _ h1; exact ⟨by omega, rfl, .inl ⟨.inr (.inl ⟨h1, rfl⟩), rfl, rfl, rfl⟩⟩
  · rename_i h0 _ _ h1; exact ⟨by omega, rfl, .inl ⟨.inr (.inr ⟨h1, rfl⟩), rfl, rfl, rfl⟩⟩
  · exact absurd he (by decide)
  · rename_i h0 h1 h2 h3 h4 h5; exact ⟨by omega, rfl, .inr ⟨h1, h2, h3, by simpa using h4, rfl, h5, rfl, rfl, rfl⟩⟩
  · rename_i h5; exact absurd he h5
theorem tok_at_ge (s : ByteArray) (a : Nat) (ha : a ≤ s.size) (y : Tok) (q : Nat) (h : tokAt s a = (y, q, 0)) : y.a = a := by
  unfold tokAt at h
  repeat' split at h
  all_goals simp only [Prod.mk.injEq] at h
  all_goals obtain ⟨rfl, rfl, he⟩ := h
  · show s.size = a; omega
  all_goals first | rfl | exact absurd he (by decide) | (rename_i h5; exact absurd he h5)
end Go.Proofs.Ytecoahdeafobkaa
