/- Lex: next, one law. -/
import Derived.Test.YtecoahdeafobkaaLxI
namespace Go.Proofs.Ytecoahdeafobkaa
open Go.RowKit
set_option linter.unusedVariables false
set_option linter.unusedSimpArgs false

structure Tok where
  k : Int
  t : ByteArray
  n : Int
  a : Nat
def Tok.v (x : Tok) : Value := tokV x.k x.t x.n x.a
def zTok : Tok := ⟨0, ⟨#[]⟩, 0, 0⟩
/-- The token at a place b that is no blank. -/
def tokAt (s : ByteArray) (b : Nat) : Tok × Nat × Int :=
  if s.size ≤ b then (⟨9, ⟨#[]⟩, 0, s.size⟩, s.size, 0)
  else if at' s b = 40 then (⟨1, ⟨#[]⟩, 0, b⟩, b + 1, 0)
  else if at' s b = 41 then (⟨2, ⟨#[]⟩, 0, b⟩, b + 1, 0)
  else if at' s b = 39 then (⟨3, ⟨#[]⟩, 0, b⟩, b + 1, 0)
  else if isWI (at' s b) = false then (zTok, b, 50)
  else if wE (s.extract b (wordEnd s (b + 1))) = 0 then (⟨wK (s.extract b (wordEnd s (b + 1))), wT (s.extract b (wordEnd s (b + 1))), wN (s.extract b (wordEnd s (b + 1))), b⟩, wordEnd s (b + 1), 0)
  else (zTok, b, wE (s.extract b (wordEnd s (b + 1))))
def nextOf (s : ByteArray) (a : Nat) : Tok × Nat × Int := tokAt s (skipG s false a)

theorem Small.extract {s : ByteArray} (h : Small s) (a b : Nat) : Small (s.extract a b) := by
  have := h.le
  unfold Small
  rw [ByteArray.size_extract]
  omega

theorem next_calls (s : ByteArray) (hs : Small s) (a : Nat) (ha : a ≤ s.size) (w : World) :
    Calls Try.prog 26 #[.string s, .int .i64 a] w fun e w' => e = .returned (.tuple #[(nextOf s a).1.v, .int .i64 (nextOf s a).2.1, .int .i64 (nextOf s a).2.2]) ∧ New w w' := by
  have hle := skipG_le s _ false a rfl ha
  unfold nextOf
  generalize hb : skipG s false a = b at *
  by_cases h0 : s.size ≤ b
  · have : b = s.size := by omega
    simp only [tokAt, h0, if_true]
    exact next_end s hs a ha b hb this w
  · have hlt : b < s.size := by omega
    by_cases h1 : at' s b = 40
    · simp only [tokAt, h0, h1, if_true, if_false]
      exact next_open s hs a ha b hb hlt h1 w
    · by_cases h2 : at' s b = 41
      · simp only [tokAt, h0, h1, h2, if_true, if_false]
        exact next_close s hs a ha b hb hlt h2 w
      · by_cases h3 : at' s b = 39
        · simp only [tokAt, h0, h1, h2, h3, if_true, if_false]
          exact next_quote s hs a ha b hb hlt h3 w
        · have n0 : (at' s b == 40) = false := by simpa using h1
          have n1 : (at' s b == 41) = false := by simpa using h2
          have n2 : (at' s b == 39) = false := by simpa using h3
          by_cases h4 : isWI (at' s b) = false
          · simp only [tokAt, h0, h1, h2, h3, h4, if_true, if_false]
            exact next_bad s hs a ha b hb hlt _ rfl n0 n1 n2 h4 w
          · have h4' : isWI (at' s b) = true := by simpa using h4
            have hE := wordEnd_le s _ (b + 1) rfl (by omega)
            have hwz : 0 < (s.extract b (wordEnd s (b + 1))).size := by rw [ByteArray.size_extract]; omega
            have hw := word_calls (s.extract b (wordEnd s (b + 1))) (hs.extract _ _) hwz
            by_cases h5 : wE (s.extract b (wordEnd s (b + 1))) = 0
            · simp only [tokAt, h0, h1, h2, h3, h4, h5, if_true, if_false]
              exact next_word s hs a ha b hb hlt _ rfl n0 n1 n2 h4' _ rfl _ _ _ _ hw (by rw [h5]; rfl) w
            · simp only [tokAt, h0, h1, h2, h3, h4, h5, if_true, if_false]
              exact next_worderr s hs a ha b hb hlt _ rfl n0 n1 n2 h4' _ rfl _ _ _ _ hw (by simpa using h5) w
end Go.Proofs.Ytecoahdeafobkaa
