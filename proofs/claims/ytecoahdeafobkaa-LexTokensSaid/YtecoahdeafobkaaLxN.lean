/- Lex: what stands between tokens, in plain Lean. -/
import Derived.Test.YtecoahdeafobkaaLxM
namespace Go.Proofs.Ytecoahdeafobkaa
open Go.RowKit
set_option linter.unusedVariables false
set_option linter.unusedSimpArgs false

/-- Each token but the last: where it is read, and the next one from the place behind it. -/
theorem toks_step (s : ByteArray) : ∀ n a, s.size - a = n → a ≤ s.size → (toks s a).2.1 = 0 →
    ∀ i x, (toks s a).1[i]? = some x → x.k ≠ 9 → ∃ b p, b ≤ s.size ∧ nextOf s b = (x, p, 0) ∧ (∃ y, (toks s a).1[i + 1]? = some y ∧ nextOf s p = (y, (nextOf s p).2.1, 0)) := by
  intro n
  induction n using Nat.strongRecOn with
  | ind n ih =>
    intro a hn ha h0 i x hi hx
    by_cases he : (nextOf s a).2.2 = 0
    · by_cases hk : (nextOf s a).1.k = 9
      · rw [toks_end he hk] at hi
        cases i with
        | zero => simp at hi; subst hi; exact absurd hk hx
        | succ i => simp at hi
      · have hp := nextOf_place s a ha he hk
        have hm := toks_more ha he hk
        rw [hm] at h0 hi ⊢
        cases i with
        | zero =>
          simp at hi
          refine ⟨a, (nextOf s a).2.1, ha, by rw [← hi, ← he], ?_⟩
          simp only [List.getElem?_cons_succ]
          by_cases he2 : (nextOf s (nextOf s a).2.1).2.2 = 0
          · by_cases hk2 : (nextOf s (nextOf s a).2.1).1.k = 9
            · rw [toks_end he2 hk2]
              exact ⟨_, rfl, by rw [← he2]⟩
            · rw [toks_more hp.2 he2 hk2]
              exact ⟨_, rfl, by rw [← he2]⟩
          · rw [toks_err he2] at h0
            exact absurd h0 he2
        | succ i =>
          simp only [List.getElem?_cons_succ] at hi ⊢
          exact ih (s.size - (nextOf s a).2.1) (by omega) _ rfl hp.2 h0 i x hi hx
    · rw [toks_err he] at h0
      exact absurd h0 he

theorem toks_last (s : ByteArray) : ∀ n a, s.size - a = n → a ≤ s.size → (toks s a).2.1 = 0 →
    ∃ L, (toks s a).1 = L ++ [⟨9, ⟨#[]⟩, 0, s.size⟩] ∧ ∀ x ∈ L, x.k ≠ 9 := by
  intro n
  induction n using Nat.strongRecOn with
  | ind n ih =>
    intro a hn ha h0
    by_cases he : (nextOf s a).2.2 = 0
    · by_cases hk : (nextOf s a).1.k = 9
      · rw [toks_end he hk]
        refine ⟨[], ?_, by simp⟩
        have : (nextOf s a).1 = ⟨9, ⟨#[]⟩, 0, s.size⟩ := by
          unfold nextOf tokAt at he hk ⊢
          repeat' split
          all_goals simp_all
          all_goals (try (have := wK_range _ ‹_›; omega))
          all_goals (try simp_all [zTok])
        rw [this]; rfl
      · have hp := nextOf_place s a ha he hk
        have hm := toks_more ha he hk
        rw [hm] at h0 ⊢
        obtain ⟨L, hL, hk2⟩ := ih (s.size - (nextOf s a).2.1) (by omega) _ rfl hp.2 h0
        refine ⟨(nextOf s a).1 :: L, by simp [hL], ?_⟩
        intro x hx
        rcases List.mem_cons.1 hx with rfl | h
        · exact hk
        · exact hk2 x h
    · rw [toks_err he] at h0
      exact absurd h0 he
end Go.Proofs.Ytecoahdeafobkaa
