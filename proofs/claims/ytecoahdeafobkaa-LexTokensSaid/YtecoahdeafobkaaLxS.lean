/- Lex: two texts with a new line between, in plain Lean. -/
import Derived.Test.YtecoahdeafobkaaLxR
namespace Go.Proofs.Ytecoahdeafobkaa
open Go.RowKit
set_option linter.unusedVariables false
set_option linter.unusedSimpArgs false

theorem tokAt_kind (s : ByteArray) (b : Nat) (h : b < s.size) (he : (tokAt s b).2.2 = 0) : (tokAt s b).1.k ≠ 9 := by
  unfold tokAt at he ⊢
  rw [if_neg (by omega)] at he ⊢
  repeat' split
  all_goals simp_all [zTok]
  all_goals (have := wK_range _ ‹_›; omega)

section
variable (s t u : ByteArray) (hu : u.data.toList = s.data.toList ++ [10] ++ t.data.toList)
include hu
theorem join_size : u.size = s.size + 1 + t.size := by rw [size_list u _ hu]; simp only [Lib.size_eq]; simp; omega
theorem join_at1 (j : Nat) (h : j < s.size) : at' u j = at' s j := by
  have := at_list u [] s.data.toList ([10] ++ t.data.toList) (by rw [hu]; simp) j (by rw [← Lib.size_eq]; exact h)
  simpa [at', bI] using this
theorem join_nl : at' u s.size = 10 := by
  have := at_list u s.data.toList [10] t.data.toList hu 0 (by simp)
  rw [← Lib.size_eq] at this
  exact this
theorem join_at2 (j : Nat) (h : j < t.size) : at' u (s.size + 1 + j) = at' t j := by
  have := at_list u (s.data.toList ++ [10]) t.data.toList [] (by rw [hu]; simp) j (by rw [← Lib.size_eq]; exact h)
  rw [List.length_append, ← Lib.size_eq] at this
  exact this
theorem join_ex1 (a b : Nat) (h : b ≤ s.size) : u.extract a b = s.extract a b := by
  refine ba_ext ?_
  rw [Lib.extract_data, Lib.extract_data, hu, List.append_assoc]
  rw [List.drop_append, List.take_append]
  rw [Lib.size_eq] at h
  rcases Nat.lt_or_ge a b with hab | hab
  · rw [show b - a - (List.drop a s.data.toList).length = 0 from by rw [List.length_drop]; omega]; simp
  · rw [show b - a = 0 from by omega]; simp
theorem join_ex2 (a b : Nat) : u.extract (s.size + 1 + a) (s.size + 1 + b) = t.extract a b := by
  refine ba_ext ?_
  rw [Lib.extract_data, Lib.extract_data, hu]
  rw [show s.size + 1 + b - (s.size + 1 + a) = b - a from by omega]
  rw [List.drop_append]
  have hl : (s.data.toList ++ [10]).length = s.size + 1 := by rw [List.length_append, ← Lib.size_eq]; rfl
  rw [List.drop_eq_nil_of_le (by rw [hl]; omega), hl, show s.size + 1 + a - (s.size + 1) = a from by omega, List.nil_append]

theorem join_skip1 : ∀ n c a, s.size - a = n → a ≤ s.size →
    (skipG s c a < s.size → skipG u c a = skipG s c a) ∧ (skipG s c a = s.size → skipG u c a = skipG u false (s.size + 1)) := by
  have hsz := join_size s t u hu
  intro n
  induction n with
  | zero =>
    intro c a hn ha
    have hae : a = s.size := by omega
    subst hae
    rw [skipG_end s c _ (Nat.le_refl _)]
    refine ⟨fun h => absurd h (by omega), fun _ => ?_⟩
    rw [skipG, if_pos (by omega), join_nl s t u hu]
    cases c <;> simp [isBI]
  | succ n ih =>
    intro c a hn ha
    have hat := join_at1 s t u hu a (by omega)
    rw [skipG.eq_def s c a, skipG.eq_def u c a, if_pos (show a < s.size by omega), if_pos (show a < u.size by omega), hat]
    repeat' split
    all_goals first | exact ih _ _ (by omega) (by omega) | exact ⟨fun _ => rfl, fun h => absurd h (by omega)⟩
theorem join_skip2 : ∀ n c a, t.size - a = n → a ≤ t.size → skipG u c (s.size + 1 + a) = s.size + 1 + skipG t c a := by
  have hsz := join_size s t u hu
  intro n
  induction n with
  | zero =>
    intro c a hn ha
    rw [skipG_end t c _ (by omega), skipG_end u c _ (by omega)]
  | succ n ih =>
    intro c a hn ha
    have hat := join_at2 s t u hu a (by omega)
    rw [skipG.eq_def t c a, skipG.eq_def u c _, if_pos (show a < t.size by omega), if_pos (show s.size + 1 + a < u.size by omega), hat]
    repeat' split
    all_goals first | exact ih true (a + 1) (by omega) (by omega) | exact ih false (a + 1) (by omega) (by omega) | rfl
theorem join_word1 : ∀ n a, s.size - a = n → a ≤ s.size → wordEnd u a = wordEnd s a := by
  have hsz := join_size s t u hu
  intro n
  induction n with
  | zero =>
    intro a hn ha
    have hae : a = s.size := by omega
    subst hae
    rw [wordEnd.eq_def u s.size, wordEnd.eq_def s s.size, if_neg (fun h => by rw [join_nl s t u hu] at h; exact absurd h.2 (by decide)), if_neg (fun h => by omega)]
  | succ n ih =>
    intro a hn ha
    have hat := join_at1 s t u hu a (by omega)
    rw [wordEnd.eq_def u a, wordEnd.eq_def s a, hat]
    by_cases h : isWI (at' s a) = true
    · rw [if_pos ⟨by omega, h⟩, if_pos ⟨by omega, h⟩]; exact ih _ (by omega) (by omega)
    · rw [if_neg (fun x => h x.2), if_neg (fun x => h x.2)]
theorem join_word2 : ∀ n a, t.size - a = n → a ≤ t.size → wordEnd u (s.size + 1 + a) = s.size + 1 + wordEnd t a := by
  have hsz := join_size s t u hu
  intro n
  induction n with
  | zero =>
    intro a hn ha
    rw [wordEnd.eq_def u _, wordEnd.eq_def t a, if_neg (fun h => by omega), if_neg (fun h => by omega)]
  | succ n ih =>
    intro a hn ha
    have hat := join_at2 s t u hu a (by omega)
    rw [wordEnd.eq_def u _, wordEnd.eq_def t a, hat]
    by_cases h : isWI (at' t a) = true
    · rw [if_pos ⟨by omega, h⟩, if_pos ⟨by omega, h⟩]; exact ih (a + 1) (by omega) (by omega)
    · rw [if_neg (fun x => h x.2), if_neg (fun x => h x.2)]

theorem join_tok1 (b : Nat) (hb : b < s.size) : tokAt u b = tokAt s b := by
  have hsz := join_size s t u hu
  unfold tokAt
  have hw := wordEnd_le s _ (b + 1) rfl (by omega)
  rw [join_at1 s t u hu b hb, join_word1 s t u hu _ (b + 1) rfl (by omega), join_ex1 s t u hu _ _ hw.2, if_neg (show ¬ u.size ≤ b by omega), if_neg (show ¬ s.size ≤ b by omega)]
end

def shT (n : Nat) (r : Tok × Nat × Int) : Tok × Nat × Int := (if r.2.2 = 0 then r.1.to (r.1.a + n) else r.1, r.2.1 + n, r.2.2)
section
variable (s t u : ByteArray) (hu : u.data.toList = s.data.toList ++ [10] ++ t.data.toList)
include hu
theorem join_tok2 (b : Nat) (hb : b ≤ t.size) : tokAt u (s.size + 1 + b) = shT (s.size + 1) (tokAt t b) := by
  have hsz := join_size s t u hu
  unfold tokAt
  by_cases h0 : t.size ≤ b
  · rw [if_pos h0, if_pos (by omega)]
    simp [shT, Tok.to]; omega
  · have hex : wordEnd u (s.size + 1 + b + 1) = s.size + 1 + wordEnd t (b + 1) := by
      have := join_word2 s t u hu _ (b + 1) rfl (by omega)
      rw [← this]; rfl
    rw [if_neg h0, if_neg (by omega), join_at2 s t u hu b (by omega), hex, join_ex2 s t u hu]
    have hc1 : s.size + 1 + b = b + (s.size + 1) := by omega
    have hc2 : s.size + 1 + wordEnd t (b + 1) = wordEnd t (b + 1) + (s.size + 1) := by omega
    have hc3 : s.size + 1 + b + 1 = b + 1 + (s.size + 1) := by omega
    rw [hc3, hc2, hc1]
    repeat' split
    all_goals simp_all [shT, Tok.to, zTok]
theorem join_next2 (a : Nat) (ha : a ≤ t.size) : nextOf u (s.size + 1 + a) = shT (s.size + 1) (nextOf t a) := by
  unfold nextOf
  rw [join_skip2 s t u hu _ false a rfl ha]
  exact join_tok2 s t u hu _ (skipG_le t _ false a rfl ha)
theorem join_next1 (a : Nat) (ha : a ≤ s.size) : (skipG s false a < s.size ∧ nextOf u a = nextOf s a) ∨ (nextOf s a = (⟨9, ⟨#[]⟩, 0, s.size⟩, s.size, 0) ∧ nextOf u a = nextOf u (s.size + 1)) := by
  have hle := skipG_le s _ false a rfl ha
  obtain ⟨h1, h2⟩ := join_skip1 s t u hu _ false a rfl ha
  unfold nextOf
  rcases Nat.lt_or_ge (skipG s false a) s.size with h | h
  · rw [h1 h]; exact .inl ⟨h, join_tok1 s t u hu _ h⟩
  · rw [h2 (by omega)]
    refine .inr ⟨?_, rfl⟩
    unfold tokAt
    rw [if_pos h]
omit hu in
theorem toks_congr (a b : Nat) (h : nextOf u a = nextOf u b) (ha : a ≤ u.size) (hb : b ≤ u.size) : toks u a = toks u b := by
  by_cases he : (nextOf u a).2.2 = 0
  · by_cases hk : (nextOf u a).1.k = 9
    · rw [toks_end he hk, toks_end (by rw [← h]; exact he) (by rw [← h]; exact hk), h]
    · rw [toks_more ha he hk, toks_more hb (by rw [← h]; exact he) (by rw [← h]; exact hk), h]
  · rw [toks_err he, toks_err (by rw [← h]; exact he), h]

theorem join_toks2 : ∀ n a, t.size - a = n → a ≤ t.size → (toks u (s.size + 1 + a)).2.1 = (toks t a).2.1 ∧ (toks u (s.size + 1 + a)).1 = (toks t a).1.map (fun x => x.to (x.a + (s.size + 1))) := by
  have hsz := join_size s t u hu
  intro n
  induction n using Nat.strongRecOn with
  | ind n ih =>
    intro a hn ha
    have hx := join_next2 s t u hu a ha
    by_cases he : (nextOf t a).2.2 = 0
    · by_cases hk : (nextOf t a).1.k = 9
      · have e1 : (nextOf u (s.size + 1 + a)).2.2 = 0 := by rw [hx]; exact he
        have e2 : (nextOf u (s.size + 1 + a)).1.k = 9 := by rw [hx]; simp [shT, he, Tok.to, hk]
        rw [toks_end e1 e2, toks_end he hk, hx]
        simp [shT, he]
      · have hp := nextOf_place t a ha he hk
        have e1 : (nextOf u (s.size + 1 + a)).2.2 = 0 := by rw [hx]; exact he
        have e2 : (nextOf u (s.size + 1 + a)).1.k ≠ 9 := by rw [hx]; simpa [shT, he, Tok.to] using hk
        rw [toks_more (by omega) e1 e2, toks_more ha he hk, hx]
        have := ih (t.size - (nextOf t a).2.1) (by omega) _ rfl hp.2
        simp only [shT, he, if_true]
        rw [show (nextOf t a).2.1 + (s.size + 1) = s.size + 1 + (nextOf t a).2.1 from by omega]
        exact ⟨this.1, by rw [this.2]; rfl⟩
    · have e1 : (nextOf u (s.size + 1 + a)).2.2 ≠ 0 := by rw [hx]; exact he
      rw [toks_err e1, toks_err he, hx]
      exact ⟨rfl, rfl⟩

theorem join_toks1 : ∀ n a, s.size - a = n → a ≤ s.size →
    ((toks s a).2.1 ≠ 0 → (toks u a).2.1 ≠ 0) ∧ ((toks s a).2.1 = 0 → (toks u a).2.1 = (toks u (s.size + 1)).2.1 ∧ (toks u a).1 = (toks s a).1.dropLast ++ (toks u (s.size + 1)).1) := by
  have hsz := join_size s t u hu
  intro n
  induction n using Nat.strongRecOn with
  | ind n ih =>
    intro a hn ha
    rcases join_next1 s t u hu a ha with ⟨hlt, hx⟩ | ⟨h1, h2⟩
    · by_cases he : (nextOf s a).2.2 = 0
      · by_cases hk : (nextOf s a).1.k = 9
        · have hr := tokAt_kind s _ hlt he
          exact absurd hk hr
        · have hp := nextOf_place s a ha he hk
          rw [toks_more (s := u) (a := a) (by omega) (by rw [hx]; exact he) (by rw [hx]; exact hk), toks_more ha he hk, hx]
          obtain ⟨i1, i2⟩ := ih (s.size - (nextOf s a).2.1) (by omega) _ rfl hp.2
          refine ⟨i1, fun h => ?_⟩
          obtain ⟨j1, j2⟩ := i2 h
          refine ⟨j1, ?_⟩
          obtain ⟨L, hL, _⟩ := toks_last s _ (nextOf s a).2.1 rfl hp.2 h
          show _ :: (toks u (nextOf s a).2.1).1 = _
          rw [j2, hL, List.dropLast_concat, List.dropLast_cons_of_ne_nil (by simp), List.dropLast_concat]
          rfl
      · rw [toks_err (s := u) (a := a) (by rw [hx]; exact he), toks_err he, hx]
        exact ⟨fun h => h, fun h => absurd h he⟩
    · have h3 : toks s a = ([⟨9, ⟨#[]⟩, 0, s.size⟩], 0, 0) := by rw [toks_end (by rw [h1]) (by rw [h1]), h1]
      rw [h3, toks_congr u a (s.size + 1) h2 (by omega) (by omega)]
      exact ⟨fun h => absurd rfl h, fun _ => ⟨rfl, by simp⟩⟩
end
end Go.Proofs.Ytecoahdeafobkaa
