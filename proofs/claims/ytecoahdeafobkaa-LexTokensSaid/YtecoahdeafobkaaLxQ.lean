/- Lex: a token's bytes, moved elsewhere or by themselves, in plain Lean. -/
import Derived.Test.YtecoahdeafobkaaLxP
namespace Go.Proofs.Ytecoahdeafobkaa
open Go.RowKit
set_option linter.unusedVariables false
set_option linter.unusedSimpArgs false

theorem wordEnd_to (s : ByteArray) (p : Nat) (hp : p ≤ s.size) (hst : p = s.size ∨ isWI (at' s p) = false) : ∀ n a, p - a = n → a ≤ p → (∀ j, a ≤ j → j < p → isWI (at' s j) = true) → wordEnd s a = p := by
  intro n
  induction n with
  | zero =>
    intro a hn ha _
    obtain rfl : a = p := by omega
    rw [wordEnd, if_neg]
    rintro ⟨h1, h2⟩
    rcases hst with h | h
    · omega
    · rw [h] at h2; exact absurd h2 (by simp)
  | succ n ih =>
    intro a hn ha hw
    rw [wordEnd, if_pos ⟨by omega, hw a (by omega) (by omega)⟩]
    exact ih (a + 1) (by omega) (by omega) (fun j h1 h2 => hw j (by omega) h2)

def Tok.to (x : Tok) (q : Nat) : Tok := ⟨x.k, x.t, x.n, q⟩
def brk (c : Int) : Prop := c = 40 ∨ c = 41 ∨ c = 39

theorem Reads.lt {s : ByteArray} {a p : Nat} {x : Tok} (h : Reads s a p x) : a < p ∧ p ≤ s.size := by
  obtain ⟨h1, h2, ⟨_, _, _, h3⟩ | ⟨_, _, _, _, h3, _⟩⟩ := h
  · omega
  · have := wordEnd_le s _ (a + 1) rfl (by omega); omega
theorem Reads.head {s : ByteArray} {a p : Nat} {x : Tok} (h : Reads s a p x) : isBI (at' s a) = false ∧ at' s a ≠ 59 := by
  obtain ⟨h1, h2, ⟨h3, _⟩ | ⟨_, _, _, h3, _⟩⟩ := h
  · rcases h3 with ⟨e, _⟩ | ⟨e, _⟩ | ⟨e, _⟩ <;> rw [e] <;> exact ⟨by decide, by decide⟩
  · generalize at' s a = c at *
    simp [isWI] at h3
    simp [isBI]
    omega
theorem Reads.kind {s : ByteArray} {a p : Nat} {x : Tok} (h : Reads s a p x) : 1 ≤ x.k ∧ x.k ≤ 8 := by
  obtain ⟨h1, h2, ⟨h3, _⟩ | ⟨_, _, _, _, _, h3, h4, _⟩⟩ := h
  · rcases h3 with ⟨_, e⟩ | ⟨_, e⟩ | ⟨_, e⟩ <;> rw [e] <;> omega
  · have := wK_range _ h3; omega

theorem reads_move (s T : ByteArray) (a p q : Nat) (x : Tok) (h : Reads s a p x) (hex : T.extract q (q + (p - a)) = s.extract a p) (hq : q + (p - a) ≤ T.size)
    (hst : brk (at' s a) ∨ q + (p - a) = T.size ∨ isWI (at' T (q + (p - a))) = false) : tokAt T q = (x.to q, q + (p - a), 0) := by
  have hlt := h.lt
  have hat : ∀ j, j < p - a → at' T (q + j) = at' s (a + j) := by
    intro j hj
    rw [← at_extract T q (q + (p - a)) j (by omega), hex, at_extract s a p j (by omega)]
  have h0 := hat 0 (by omega)
  simp only [Nat.add_zero] at h0
  obtain ⟨h1, h2, ⟨h3, h4, h5, h6⟩ | ⟨n1, n2, n3, hw, hp, he, hk, ht, hn⟩⟩ := h
  · unfold tokAt
    rw [if_neg (by omega), h0]
    have hp1 : q + (p - a) = q + 1 := by omega
    rw [hp1]
    rcases h3 with ⟨e, k⟩ | ⟨e, k⟩ | ⟨e, k⟩ <;> rw [e] <;> simp [Tok.to, k, h4, h5]
  · have hst' : q + (p - a) = T.size ∨ isWI (at' T (q + (p - a))) = false := by
      rcases hst with (e | e | e) | e
      · exact absurd e n1
      · exact absurd e n2
      · exact absurd e n3
      · exact e
    have hwe : wordEnd T (q + 1) = q + (p - a) := by
      refine wordEnd_to T _ hq hst' _ (q + 1) rfl (by omega) ?_
      intro j hj1 hj2
      have := hat (j - q) (by omega)
      rw [show q + (j - q) = j from by omega] at this
      rw [this]
      refine wordEnd_word s _ (a + 1) rfl _ (by omega) (by omega)
    unfold tokAt
    rw [if_neg (by omega), h0, if_neg n1, if_neg n2, if_neg n3, if_neg (by simp [hw]), hwe, hex, if_pos he]
    simp [Tok.to, hk, ht, hn]

theorem extract_self (s : ByteArray) : s.extract 0 s.size = s := by simp

theorem skipG_look (s : ByteArray) (a : Nat) : skipG s false a = a ∨ (a < s.size ∧ (isBI (at' s a) = true ∨ at' s a = 59)) := by
  rw [skipG]
  split
  · rename_i h
    simp only [Bool.false_eq_true, if_false]
    split
    · exact .inr ⟨h, .inl ‹_›⟩
    · split
      · exact .inr ⟨h, .inr ‹_›⟩
      · exact .inl rfl
  · exact .inl rfl

/-- A token's bytes by themselves. -/
theorem reads_own (s : ByteArray) (a p : Nat) (x : Tok) (h : Reads s a p x) : toks (s.extract a p) 0 = ([x.to 0, ⟨9, ⟨#[]⟩, 0, p - a⟩], 0, 0) := by
  have hlt := h.lt
  have hhd := h.head
  have hkd := h.kind
  have hsz : (s.extract a p).size = p - a := by rw [ByteArray.size_extract]; omega
  have h0 : at' (s.extract a p) 0 = at' s a := by have := at_extract s a p 0 (by omega); simpa using this
  have hn : nextOf (s.extract a p) 0 = (x.to 0, p - a, 0) := by
    unfold nextOf
    rw [skip_stop (by omega) (by rw [h0]; exact hhd.1) (by rw [h0]; exact hhd.2)]
    have := reads_move s (s.extract a p) a p 0 x h (by rw [Nat.zero_add, ← hsz]; exact extract_self _) (by omega) (.inr (.inl (by omega)))
    simpa using this
  have hn2 : nextOf (s.extract a p) (p - a) = (⟨9, ⟨#[]⟩, 0, p - a⟩, p - a, 0) := by
    unfold nextOf
    rw [skipG_end _ _ _ (by omega)]
    unfold tokAt
    rw [if_pos (by omega), hsz]
  rw [toks_more (Nat.zero_le _) (by rw [hn]) (by rw [hn]; show x.k ≠ 9; omega), hn, toks_end (by rw [hn2]) (by rw [hn2]), hn2]

theorem reads_sym (s : ByteArray) (a p : Nat) (x : Tok) (h : Reads s a p x) : symB (s.extract a p) = (x.k == 6) ∧ (x.k = 6 → x.t = s.extract a p) := by
  have hlt := h.lt
  have hsz : (s.extract a p).size = p - a := by rw [ByteArray.size_extract]; omega
  have h0 : at' (s.extract a p) 0 = at' s a := by have := at_extract s a p 0 (by omega); simpa using this
  obtain ⟨h1, h2, ⟨h3, h4, h5, h6⟩ | ⟨n1, n2, n3, hw, hp, he, hk, ht, hn⟩⟩ := h
  · have hw : isWI (at' (s.extract a p) 0) = false := by rw [h0]; rcases h3 with ⟨e, _⟩ | ⟨e, _⟩ | ⟨e, _⟩ <;> rw [e] <;> decide
    rw [symB_no (k := 0) (by omega) hw]
    rcases h3 with ⟨_, k⟩ | ⟨_, k⟩ | ⟨_, k⟩ <;> rw [k] <;> exact ⟨rfl, fun h => absurd h (by decide)⟩
  · have hwor : worB (s.extract a p) = true := by
      refine decide_eq_true ?_
      intro j hj
      rw [at_extract s a p j (by omega)]
      by_cases hj0 : j = 0
      · subst hj0; exact hw
      · exact wordEnd_word s _ (a + 1) rfl _ (by omega) (by omega)
    refine ⟨by simp [symB, hwor, he, hk, hsz]; omega, fun h => ?_⟩
    rw [ht]
    rw [hk] at h
    unfold wK at h
    unfold wT
    rcases cls_lt (s.extract a p) with e | e | e | e | e | e <;> simp [e] at h ⊢

/-- Each token but the last of a text's: where it is read, and what stands behind it. -/
theorem toks_reads (s : ByteArray) (h0 : (toks s 0).2.1 = 0) (i : Nat) (x : Tok) (hi : (toks s 0).1[i]? = some x) (hx : x.k ≠ 9) :
    ∃ p y, Reads s x.a p x ∧ (toks s 0).1[i + 1]? = some y ∧ p ≤ y.a ∧ y.a ≤ s.size ∧ (p = y.a ∨ at' s p ≤ 32 ∨ at' s p = 59) := by
  obtain ⟨b, p, hb, hn, y, hy, hny⟩ := toks_step s _ 0 rfl (Nat.zero_le _) h0 i x hi hx
  have hr := reads_of s (skipG s false b) p x hn hx
  have ha : x.a = skipG s false b := hr.2.1
  have hlt := hr.lt
  have hge := skipG_ge s _ false p rfl
  have hle := skipG_le s _ false p rfl hlt.2
  have hya : y.a = skipG s false p := tok_at_ge s _ hle y _ hny
  refine ⟨p, y, by rw [ha]; exact hr, hy, by omega, by omega, ?_⟩
  rcases skipG_look s p with h | ⟨_, h | h⟩
  · exact .inl (by omega)
  · refine .inr (.inl ?_)
    have := (isBI_iff _).1 h
    omega
  · exact .inr (.inr h)
end Go.Proofs.Ytecoahdeafobkaa
