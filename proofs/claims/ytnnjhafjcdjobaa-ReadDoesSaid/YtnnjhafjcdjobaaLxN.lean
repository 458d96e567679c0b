/- Lex: what stands between tokens, in plain Lean. Lex: a token's own bytes. Lex: a token's bytes, moved elsewhere or by themselves, in plain Lean. Lex: tokens with blanks and comments between, in plain Lean. Lex: two texts with a new line between, in plain Lean. Lex: a slice that reads as tokens; a text that has tokens, or none. -/
import Derived.Test.YtnnjhafjcdjobaaLxL
import Derived.Laws.StructEq
import Derived.Deep.QuietTactic
import Derived.BigQuiet
import Derived.IntWalk
namespace Go.Proofs.Ytnnjhafjcdjobaa
open Go.RowKit
set_option linter.unusedVariables false
set_option linter.unusedSimpArgs false

/-- Each token but the last: where it is read, and the next one from the place behind it. -/
theorem toks_step (s : ByteArray) : ∀ n a, s.size - a = n → a ≤ s.size → (toks s a).2.1 = 0 →
    ∀ i x, (toks s a).1[i]? = some x → x.k ≠ 9 → ∃ b p, b ≤ s.size ∧ nextOf s b = (x, p, 0) ∧ (∃ y, (toks s a).1[i + 1]? = some y ∧ nextOf s p = (y, (nextOf s p).2.1, 0)) := by
  intro n
  induction n using Nat.strongRecOn with
  | ind n ih =>
    intro a hn ha h0 i x hi hx
    by_cases he : (nextOf s a).2.2 = 0
    · by_cases hk : (nextOf s a).1.k = 9
      · rw [toks_end he hk] at hi
        cases i with
        | zero => simp at hi; subst hi; exact absurd hk hx
        | succ i => simp at hi
      · have hp := nextOf_place s a ha he hk
        have hm := toks_more ha he hk
        rw [hm] at h0 hi ⊢
        cases i with
        | zero =>
          simp at hi
          refine ⟨a, (nextOf s a).2.1, ha, by rw [← hi, ← he], ?_⟩
          simp only [List.getElem?_cons_succ]
          by_cases he2 : (nextOf s (nextOf s a).2.1).2.2 = 0
          · by_cases hk2 : (nextOf s (nextOf s a).2.1).1.k = 9
            · rw [toks_end he2 hk2]
              exact ⟨_, rfl, by rw [← he2]⟩
            · rw [toks_more hp.2 he2 hk2]
              exact ⟨_, rfl, by rw [← he2]⟩
          · rw [toks_err he2] at h0
            exact absurd h0 he2
        | succ i =>
          simp only [List.getElem?_cons_succ] at hi ⊢
          exact ih (s.size - (nextOf s a).2.1) (by omega) _ rfl hp.2 h0 i x hi hx
    · rw [toks_err he] at h0
      exact absurd h0 he

theorem toks_last (s : ByteArray) : ∀ n a, s.size - a = n → a ≤ s.size → (toks s a).2.1 = 0 →
    ∃ L, (toks s a).1 = L ++ [⟨9, ⟨#[]⟩, 0, s.size⟩] ∧ ∀ x ∈ L, x.k ≠ 9 := by
  intro n
  induction n using Nat.strongRecOn with
  | ind n ih =>
    intro a hn ha h0
    by_cases he : (nextOf s a).2.2 = 0
    · by_cases hk : (nextOf s a).1.k = 9
      · rw [toks_end he hk]
        refine ⟨[], ?_, by simp⟩
        have : (nextOf s a).1 = ⟨9, ⟨#[]⟩, 0, s.size⟩ := by
          unfold nextOf tokAt at he hk ⊢
          repeat' split
          all_goals simp_all
          all_goals (try (have := wK_range _ ‹_›; omega))
          all_goals (try simp_all [zTok])
        rw [this]; rfl
      · have hp := nextOf_place s a ha he hk
        have hm := toks_more ha he hk
        rw [hm] at h0 ⊢
        obtain ⟨L, hL, hk2⟩ := ih (s.size - (nextOf s a).2.1) (by omega) _ rfl hp.2 h0
        refine ⟨(nextOf s a).1 :: L, by simp [hL], ?_⟩
        intro x hx
        rcases List.mem_cons.1 hx with rfl | h
        · exact hk
        · exact hk2 x h
    · rw [toks_err he] at h0
      exact absurd h0 he
end Go.Proofs.Ytnnjhafjcdjobaa

namespace Go.Proofs.Ytnnjhafjcdjobaa
open Go.RowKit
set_option linter.unusedVariables false
set_option linter.unusedSimpArgs false

theorem wordEnd_word (s : ByteArray) : ∀ n a, s.size - a = n → ∀ j, a ≤ j → j < wordEnd s a → isWI (at' s j) = true := by
  intro n
  induction n with
  | zero => intro a hn j h1 h2; rw [wordEnd, if_neg (fun x => by omega)] at h2; omega
  | succ n ih =>
    intro a hn j h1 h2
    rw [wordEnd] at h2
    split at h2
    · rename_i h
      by_cases hj : j = a
      · subst hj; exact h.2
      · exact ih (a + 1) (by omega) j (by omega) h2
    · omega
theorem wordEnd_stop (s : ByteArray) : ∀ n a, s.size - a = n → a ≤ s.size → wordEnd s a < s.size → isWI (at' s (wordEnd s a)) = false := by
  intro n
  induction n with
  | zero => intro a hn ha h; rw [wordEnd, if_neg (fun x => by omega)] at h; omega
  | succ n ih =>
    intro a hn ha h
    rw [wordEnd] at h ⊢
    split at h
    · rename_i hc
      rw [if_pos hc]
      exact ih (a + 1) (by omega) (by omega) h
    · rename_i hc
      rw [if_neg hc]
      cases hw : isWI (at' s a)
      · rfl
      · exact absurd ⟨h, hw⟩ hc

/-- Where a token is read. -/
def Reads (s : ByteArray) (a p : Nat) (x : Tok) : Prop :=
  a < s.size ∧ x.a = a ∧
  (((at' s a = 40 ∧ x.k = 1 ∨ at' s a = 41 ∧ x.k = 2 ∨ at' s a = 39 ∧ x.k = 3) ∧ x.t = ⟨#[]⟩ ∧ x.n = 0 ∧ p = a + 1) ∨
   (at' s a ≠ 40 ∧ at' s a ≠ 41 ∧ at' s a ≠ 39 ∧ isWI (at' s a) = true ∧ p = wordEnd s (a + 1) ∧ wE (s.extract a p) = 0 ∧ x.k = wK (s.extract a p) ∧ x.t = wT (s.extract a p) ∧ x.n = wN (s.extract a p)))
theorem reads_of (s : ByteArray) (a p : Nat) (x : Tok) (h : tokAt s a = (x, p, 0)) (hk : x.k ≠ 9) : Reads s a p x := by
  unfold tokAt at h
  unfold Reads
  repeat' split at h
  all_goals simp only [Prod.mk.injEq] at h
  all_goals obtain ⟨rfl, rfl, he⟩ := h
  · exact absurd rfl hk
  · rename_i h0 h1; exact ⟨by omega, rfl, .inl ⟨.inl ⟨h1, rfl⟩, rfl, rfl, rfl⟩⟩
  · rename_i h0 _ h1; exact ⟨by omega, rfl, .inl ⟨.inr (.inl ⟨h1, rfl⟩), rfl, rfl, rfl⟩⟩
  · rename_i h0 _ _ h1; exact ⟨by omega, rfl, .inl ⟨.inr (.inr ⟨h1, rfl⟩), rfl, rfl, rfl⟩⟩
  · exact absurd he (by decide)
  · rename_i h0 h1 h2 h3 h4 h5; exact ⟨by omega, rfl, .inr ⟨h1, h2, h3, by simpa using h4, rfl, h5, rfl, rfl, rfl⟩⟩
  · rename_i h5; exact absurd he h5
theorem tok_at_ge (s : ByteArray) (a : Nat) (ha : a ≤ s.size) (y : Tok) (q : Nat) (h : tokAt s a = (y, q, 0)) : y.a = a := by
  unfold tokAt at h
  repeat' split at h
  all_goals simp only [Prod.mk.injEq] at h
  all_goals obtain ⟨rfl, rfl, he⟩ := h
  · show s.size = a; omega
  all_goals first | rfl | exact absurd he (by decide) | (rename_i h5; exact absurd he h5)
end Go.Proofs.Ytnnjhafjcdjobaa

namespace Go.Proofs.Ytnnjhafjcdjobaa
open Go.RowKit
set_option linter.unusedVariables false
set_option linter.unusedSimpArgs false

theorem wordEnd_to (s : ByteArray) (p : Nat) (hp : p ≤ s.size) (hst : p = s.size ∨ isWI (at' s p) = false) : ∀ n a, p - a = n → a ≤ p → (∀ j, a ≤ j → j < p → isWI (at' s j) = true) → wordEnd s a = p := by
  intro n
  induction n with
  | zero =>
    intro a hn ha _
    obtain rfl : a = p := by omega
    rw [wordEnd, if_neg]
    rintro ⟨h1, h2⟩
    rcases hst with h | h
    · omega
    · rw [h] at h2; exact absurd h2 (by simp)
  | succ n ih =>
    intro a hn ha hw
    rw [wordEnd, if_pos ⟨by omega, hw a (by omega) (by omega)⟩]
    exact ih (a + 1) (by omega) (by omega) (fun j h1 h2 => hw j (by omega) h2)

def Tok.to (x : Tok) (q : Nat) : Tok := ⟨x.k, x.t, x.n, q⟩
def brk (c : Int) : Prop := c = 40 ∨ c = 41 ∨ c = 39

theorem Reads.lt {s : ByteArray} {a p : Nat} {x : Tok} (h : Reads s a p x) : a < p ∧ p ≤ s.size := by
  obtain ⟨h1, h2, ⟨_, _, _, h3⟩ | ⟨_, _, _, _, h3, _⟩⟩ := h
  · omega
  · have := wordEnd_le s _ (a + 1) rfl (by omega); omega
theorem Reads.head {s : ByteArray} {a p : Nat} {x : Tok} (h : Reads s a p x) : isBI (at' s a) = false ∧ at' s a ≠ 59 := by
  obtain ⟨h1, h2, ⟨h3, _⟩ | ⟨_, _, _, h3, _⟩⟩ := h
  · rcases h3 with ⟨e, _⟩ | ⟨e, _⟩ | ⟨e, _⟩ <;> rw [e] <;> exact ⟨by decide, by decide⟩
  · generalize at' s a = c at *
    simp [isWI] at h3
    simp [isBI]
    omega
theorem Reads.kind {s : ByteArray} {a p : Nat} {x : Tok} (h : Reads s a p x) : 1 ≤ x.k ∧ x.k ≤ 8 := by
  obtain ⟨h1, h2, ⟨h3, _⟩ | ⟨_, _, _, _, _, h3, h4, _⟩⟩ := h
  · rcases h3 with ⟨_, e⟩ | ⟨_, e⟩ | ⟨_, e⟩ <;> rw [e] <;> omega
  · have := wK_range _ h3; omega

theorem reads_move (s T : ByteArray) (a p q : Nat) (x : Tok) (h : Reads s a p x) (hex : T.extract q (q + (p - a)) = s.extract a p) (hq : q + (p - a) ≤ T.size)
    (hst : brk (at' s a) ∨ q + (p - a) = T.size ∨ isWI (at' T (q + (p - a))) = false) : tokAt T q = (x.to q, q + (p - a), 0) := by
  have hlt := h.lt
  have hat : ∀ j, j < p - a → at' T (q + j) = at' s (a + j) := by
    intro j hj
    rw [← at_extract T q (q + (p - a)) j (by omega), hex, at_extract s a p j (by omega)]
  have h0 := hat 0 (by omega)
  simp only [Nat.add_zero] at h0
  obtain ⟨h1, h2, ⟨h3, h4, h5, h6⟩ | ⟨n1, n2, n3, hw, hp, he, hk, ht, hn⟩⟩ := h
  · unfold tokAt
    rw [if_neg (by omega), h0]
    have hp1 : q + (p - a) = q + 1 := by omega
    rw [hp1]
    rcases h3 with ⟨e, k⟩ | ⟨e, k⟩ | ⟨e, k⟩ <;> rw [e] <;> simp [Tok.to, k, h4, h5]
  · have hst' : q + (p - a) = T.size ∨ isWI (at' T (q + (p - a))) = false := by
      rcases hst with (e | e | e) | e
      · exact absurd e n1
      · exact absurd e n2
      · exact absurd e n3
      · exact e
    have hwe : wordEnd T (q + 1) = q + (p - a) := by
      refine wordEnd_to T _ hq hst' _ (q + 1) rfl (by omega) ?_
      intro j hj1 hj2
      have := hat (j - q) (by omega)
      rw [show q + (j - q) = j from by omega] at this
      rw [this]
      refine wordEnd_word s _ (a + 1) rfl _ (by omega) (by omega)
    unfold tokAt
    rw [if_neg (by omega), h0, if_neg n1, if_neg n2, if_neg n3, if_neg (by simp [hw]), hwe, hex, if_pos he]
    simp [Tok.to, hk, ht, hn]

theorem extract_self (s : ByteArray) : s.extract 0 s.size = s := by simp

theorem skipG_look (s : ByteArray) (a : Nat) : skipG s false a = a ∨ (a < s.size ∧ (isBI (at' s a) = true ∨ at' s a = 59)) := by
  rw [skipG]
  split
  · rename_i h
    simp only [Bool.false_eq_true, if_false]
    split
    · exact .inr ⟨h, .inl ‹_›⟩
    · split
      · exact .inr ⟨h, .inr ‹_›⟩
      · exact .inl rfl
  · exact .inl rfl

/-- A token's bytes by themselves. -/
theorem reads_own (s : ByteArray) (a p : Nat) (x : Tok) (h : Reads s a p x) : toks (s.extract a p) 0 = ([x.to 0, ⟨9, ⟨#[]⟩, 0, p - a⟩], 0, 0) := by
  have hlt := h.lt
  have hhd := h.head
  have hkd := h.kind
  have hsz : (s.extract a p).size = p - a := by rw [ByteArray.size_extract]; omega
  have h0 : at' (s.extract a p) 0 = at' s a := by have := at_extract s a p 0 (by omega); simpa using this
  have hn : nextOf (s.extract a p) 0 = (x.to 0, p - a, 0) := by
    unfold nextOf
    rw [skip_stop (by omega) (by rw [h0]; exact hhd.1) (by rw [h0]; exact hhd.2)]
    have := reads_move s (s.extract a p) a p 0 x h (by rw [Nat.zero_add, ← hsz]; exact extract_self _) (by omega) (.inr (.inl (by omega)))
    simpa using this
  have hn2 : nextOf (s.extract a p) (p - a) = (⟨9, ⟨#[]⟩, 0, p - a⟩, p - a, 0) := by
    unfold nextOf
    rw [skipG_end _ _ _ (by omega)]
    unfold tokAt
    rw [if_pos (by omega), hsz]
  rw [toks_more (Nat.zero_le _) (by rw [hn]) (by rw [hn]; show x.k ≠ 9; omega), hn, toks_end (by rw [hn2]) (by rw [hn2]), hn2]

theorem reads_sym (s : ByteArray) (a p : Nat) (x : Tok) (h : Reads s a p x) : symB (s.extract a p) = (x.k == 6) ∧ (x.k = 6 → x.t = s.extract a p) := by
  have hlt := h.lt
  have hsz : (s.extract a p).size = p - a := by rw [ByteArray.size_extract]; omega
  have h0 : at' (s.extract a p) 0 = at' s a := by have := at_extract s a p 0 (by omega); simpa using this
  obtain ⟨h1, h2, ⟨h3, h4, h5, h6⟩ | ⟨n1, n2, n3, hw, hp, he, hk, ht, hn⟩⟩ := h
  · have hw : isWI (at' (s.extract a p) 0) = false := by rw [h0]; rcases h3 with ⟨e, _⟩ | ⟨e, _⟩ | ⟨e, _⟩ <;> rw [e] <;> decide
    rw [symB_no (k := 0) (by omega) hw]
    rcases h3 with ⟨_, k⟩ | ⟨_, k⟩ | ⟨_, k⟩ <;> rw [k] <;> exact ⟨rfl, fun h => absurd h (by decide)⟩
  · have hwor : worB (s.extract a p) = true := by
      refine decide_eq_true ?_
      intro j hj
      rw [at_extract s a p j (by omega)]
      by_cases hj0 : j = 0
      · subst hj0; exact hw
      · exact wordEnd_word s _ (a + 1) rfl _ (by omega) (by omega)
    refine ⟨by simp [symB, hwor, he, hk, hsz]; omega, fun h => ?_⟩
    rw [ht]
    rw [hk] at h
    unfold wK at h
    unfold wT
    rcases cls_lt (s.extract a p) with e | e | e | e | e | e <;> simp [e] at h ⊢

/-- Each token but the last of a text's: where it is read, and what stands behind it. -/
theorem toks_reads (s : ByteArray) (h0 : (toks s 0).2.1 = 0) (i : Nat) (x : Tok) (hi : (toks s 0).1[i]? = some x) (hx : x.k ≠ 9) :
    ∃ p y, Reads s x.a p x ∧ (toks s 0).1[i + 1]? = some y ∧ p ≤ y.a ∧ y.a ≤ s.size ∧ (p = y.a ∨ at' s p ≤ 32 ∨ at' s p = 59) := by
  obtain ⟨b, p, hb, hn, y, hy, hny⟩ := toks_step s _ 0 rfl (Nat.zero_le _) h0 i x hi hx
  have hr := reads_of s (skipG s false b) p x hn hx
  have ha : x.a = skipG s false b := hr.2.1
  have hlt := hr.lt
  have hge := skipG_ge s _ false p rfl
  have hle := skipG_le s _ false p rfl hlt.2
  have hya : y.a = skipG s false p := tok_at_ge s _ hle y _ hny
  refine ⟨p, y, by rw [ha]; exact hr, hy, by omega, by omega, ?_⟩
  rcases skipG_look s p with h | ⟨_, h | h⟩
  · exact .inl (by omega)
  · refine .inr (.inl ?_)
    have := (isBI_iff _).1 h
    omega
  · exact .inr (.inr h)
end Go.Proofs.Ytnnjhafjcdjobaa

namespace Go.Proofs.Ytnnjhafjcdjobaa
open Go.RowKit
set_option linter.unusedVariables false
set_option linter.unusedSimpArgs false

def bI (c : UInt8) : Int := ((c.toNat : Nat) : Int)
/-- Going over a gap: is it within a comment behind it? none: something stands in it. -/
def gapRun : Bool → List UInt8 → Option Bool
  | c, [] => some c
  | true, x :: l => if bI x = 10 then gapRun false l else gapRun true l
  | false, x :: l => if isBI (bI x) then gapRun false l else if bI x = 59 then gapRun true l else none

theorem at_list (T : ByteArray) (pre g post : List UInt8) (h : T.data.toList = pre ++ g ++ post) (j : Nat) (hj : j < g.length) : at' T (pre.length + j) = bI (g.getD j 0) := by
  unfold at' bI
  rw [h]
  congr 2
  simp only [List.getD, List.append_assoc]
  rw [List.getElem?_append_right (by omega), Nat.add_sub_cancel_left, List.getElem?_append_left hj]
theorem size_list (T : ByteArray) (l : List UInt8) (h : T.data.toList = l) : T.size = l.length := by rw [Lib.size_eq, h]

theorem gapRun_skip (T : ByteArray) : ∀ (g : List UInt8) (c c' : Bool) (pre post : List UInt8), T.data.toList = pre ++ g ++ post → gapRun c g = some c' →
    skipG T c pre.length = skipG T c' (pre.length + g.length) := by
  intro g
  induction g with
  | nil => intro c c' pre post h hg; simp only [gapRun, Option.some.injEq] at hg; rw [hg]; rfl
  | cons x g ih =>
    intro c c' pre post h hg
    have hsz := size_list T _ h
    simp only [List.length_append, List.length_cons] at hsz
    have h0 := at_list T pre (x :: g) post h 0 (by simp)
    simp only [Nat.add_zero, List.getD_cons_zero] at h0
    have hT : T.data.toList = (pre ++ [x]) ++ g ++ post := by rw [h]; simp
    have hl : pre.length + (x :: g).length = (pre ++ [x]).length + g.length := by simp; omega
    have hl1 : pre.length + 1 = (pre ++ [x]).length := by simp
    rw [skipG, if_pos (by omega), h0, hl, hl1]
    cases c with
    | true =>
      simp only [gapRun] at hg
      simp only [if_true]
      split at hg
      · rename_i e; rw [if_pos e]; exact ih _ _ _ _ hT hg
      · rename_i e; rw [if_neg e]; exact ih _ _ _ _ hT hg
    | false =>
      simp only [gapRun] at hg
      simp only [Bool.false_eq_true, if_false]
      split at hg
      · rename_i e; rw [if_pos e]; exact ih _ _ _ _ hT hg
      · rename_i e
        rw [if_neg e]
        split at hg
        · rename_i e2; rw [if_pos e2]; exact ih _ _ _ _ hT hg
        · exact absurd hg (by simp)

def IsGap (g : List UInt8) : Prop := gapRun false g = some false ∧ ∃ x l, g = x :: l ∧ isWI (bI x) = false

/-- A token's own bytes. -/
def own (s : ByteArray) (p : Tok × Nat) : List UInt8 := (s.extract p.1.a p.2).data.toList
/-- Gaps, each with a token behind it. -/
def spread (s : ByteArray) : List (List UInt8 × Tok × Nat) → List UInt8
  | [] => []
  | y :: l => y.1 ++ (if y.2.1.k = 9 then [] else own s y.2) ++ spread s l
theorem spread_append (s : ByteArray) (l m : List (List UInt8 × Tok × Nat)) : spread s (l ++ m) = spread s l ++ spread s m := by
  induction l with
  | nil => rfl
  | cons y l ih => simp only [List.cons_append, spread, ih, List.append_assoc]

theorem extract_list (T : ByteArray) (pre o post : List UInt8) (h : T.data.toList = pre ++ o ++ post) : (T.extract pre.length (pre.length + o.length)).data.toList = o := by
  rw [Lib.extract_data, h]
  simp
theorem ba_ext {a b : ByteArray} (h : a.data.toList = b.data.toList) : a = b := by
  obtain ⟨⟨a⟩⟩ := a
  obtain ⟨⟨b⟩⟩ := b
  simp at h
  rw [h]

theorem spread_toks (s T : ByteArray) : ∀ (l : List (List UInt8 × Tok × Nat)) (pre : List UInt8), l ≠ [] → T.data.toList = pre ++ spread s l →
    (∀ y ∈ l, IsGap y.1) → (∀ i y, l[i]? = some y → (i + 1 < l.length → Reads s y.2.1.a y.2.2 y.2.1) ∧ (i + 1 = l.length → y.2.1 = ⟨9, ⟨#[]⟩, 0, s.size⟩)) →
    (toks T pre.length).2.1 = 0 ∧ (toks T pre.length).1.map (·.to 0) = l.map (fun y => y.2.1.to 0) := by
  intro l
  induction l with
  | nil => intro pre h; exact absurd rfl h
  | cons y l ih =>
    intro pre _ hT hg hr
    obtain ⟨g, x, p⟩ := y
    have hg0 := hg (g, x, p) (by simp)
    obtain ⟨hx0, hx1⟩ := hr 0 (g, x, p) rfl
    simp only at hx0 hx1 hg0
    simp only [spread] at hT
    rcases Nat.eq_zero_or_pos l.length with h0 | h0
    · have hl : l = [] := List.eq_nil_of_length_eq_zero h0
      subst hl
      have hx := hx1 (by simp)
      subst hx
      simp only [if_true, spread, List.append_nil] at hT
      have hsk := gapRun_skip T g false false pre [] (by simpa using hT) hg0.1
      have hsz := size_list T _ hT
      simp only [List.length_append] at hsz
      have hn : nextOf T pre.length = (⟨9, ⟨#[]⟩, 0, T.size⟩, T.size, 0) := by
        unfold nextOf
        rw [hsk, skipG_end _ _ _ (by omega)]
        unfold tokAt
        rw [if_pos (by omega)]
      rw [toks_end (by rw [hn]) (by rw [hn]), hn]
      exact ⟨rfl, rfl⟩
    · have hrd := hx0 (by simp; omega)
      have hkd := hrd.kind
      have hlt := hrd.lt
      have hhd := hrd.head
      rw [if_neg (by show x.k ≠ 9; omega)] at hT
      have hol : (own s (x, p)).length = p - x.a := by
        unfold own
        rw [← Lib.size_eq, ByteArray.size_extract]
        show min p s.size - x.a = p - x.a
        omega
      generalize ho : own s (x, p) = o at *
      have hsk := gapRun_skip T g false false pre (o ++ spread s l) (by rw [hT]; simp) hg0.1
      have hT2 : T.data.toList = (pre ++ g) ++ o ++ spread s l := by rw [hT]; simp
      have hT3 : T.data.toList = ((pre ++ g) ++ o) ++ spread s l := hT2
      have hex : T.extract (pre ++ g).length ((pre ++ g).length + (p - x.a)) = s.extract x.a p := by
        refine ba_ext ?_
        rw [← hol, extract_list T (pre ++ g) o _ hT2, ← ho]
        rfl
      have hsz := size_list T _ hT2
      simp only [List.length_append] at hsz
      obtain ⟨g2, hg2⟩ : ∃ g2, l[0]? = some g2 := ⟨_, List.getElem?_eq_getElem h0⟩
      have hnw : isWI (at' T ((pre ++ g).length + (p - x.a))) = false := by
        obtain ⟨z, m, hz, hw⟩ := (hg g2 (List.mem_cons_of_mem _ (List.mem_of_getElem? hg2))).2
        have hl2 : spread s l = z :: (m ++ (if g2.2.1.k = 9 then [] else own s g2.2) ++ spread s l.tail) := by
          cases l with
          | nil => simp at h0
          | cons a l =>
            simp at hg2
            subst hg2
            simp only [spread, hz, List.tail_cons, List.cons_append, List.append_assoc]
        have := at_list T ((pre ++ g) ++ o) [z] (m ++ (if g2.2.1.k = 9 then [] else own s g2.2) ++ spread s l.tail) (by rw [hT3, hl2]; simp) 0 (by simp)
        simp only [Nat.add_zero, List.getD_cons_zero] at this
        rw [← hol, show (pre ++ g).length + o.length = ((pre ++ g) ++ o).length from by simp only [List.length_append], this]
        exact hw
      have h0T : at' T (pre ++ g).length = at' s x.a := by
        have h1 := at_extract T (pre ++ g).length ((pre ++ g).length + (p - x.a)) 0 (by omega)
        rw [hex, at_extract s x.a p 0 (by omega)] at h1
        simpa using h1.symm
      have htk := reads_move s T x.a p (pre ++ g).length x hrd hex (by simp; omega) (.inr (.inr hnw))
      have hn : nextOf T pre.length = (x.to (pre ++ g).length, (pre ++ g).length + (p - x.a), 0) := by
        unfold nextOf
        rw [hsk, show pre.length + g.length = (pre ++ g).length from by simp, skip_stop (by simp; omega) (by rw [h0T]; exact hhd.1) (by rw [h0T]; exact hhd.2), htk]
      have hlp : (pre ++ g).length + (p - x.a) = ((pre ++ g) ++ o).length := by simp; omega
      obtain ⟨i1, i2⟩ := ih ((pre ++ g) ++ o) (by intro e; subst e; simp at h0) hT3 (fun y hy => hg y (List.mem_cons_of_mem _ hy)) (fun i y hi => by
        obtain ⟨a, b⟩ := hr (i + 1) y (by simpa using hi)
        exact ⟨fun h => a (by simp; omega), fun h => b (by simp; omega)⟩)
      rw [toks_more (by omega) (by rw [hn]) (by rw [hn]; show x.k ≠ 9; omega), hn]
      simp only
      rw [hlp]
      exact ⟨i1, by rw [List.map_cons, i2]; rfl⟩
end Go.Proofs.Ytnnjhafjcdjobaa

namespace Go.Proofs.Ytnnjhafjcdjobaa
open Go.RowKit
set_option linter.unusedVariables false
set_option linter.unusedSimpArgs false

theorem tokAt_kind (s : ByteArray) (b : Nat) (h : b < s.size) (he : (tokAt s b).2.2 = 0) : (tokAt s b).1.k ≠ 9 := by
  unfold tokAt at he ⊢
  rw [if_neg (by omega)] at he ⊢
  repeat' split
  all_goals simp_all [zTok]
  all_goals (have := wK_range _ ‹_›; omega)

section
variable (s t u : ByteArray) (hu : u.data.toList = s.data.toList ++ [10] ++ t.data.toList)
include hu
theorem join_size : u.size = s.size + 1 + t.size := by rw [size_list u _ hu]; simp only [Lib.size_eq]; simp; omega
theorem join_at1 (j : Nat) (h : j < s.size) : at' u j = at' s j := by
  have := at_list u [] s.data.toList ([10] ++ t.data.toList) (by rw [hu]; simp) j (by rw [← Lib.size_eq]; exact h)
  simpa [at', bI] using this
theorem join_nl : at' u s.size = 10 := by
  have := at_list u s.data.toList [10] t.data.toList hu 0 (by simp)
  rw [← Lib.size_eq] at this
  exact this
theorem join_at2 (j : Nat) (h : j < t.size) : at' u (s.size + 1 + j) = at' t j := by
  have := at_list u (s.data.toList ++ [10]) t.data.toList [] (by rw [hu]; simp) j (by rw [← Lib.size_eq]; exact h)
  rw [List.length_append, ← Lib.size_eq] at this
  exact this
theorem join_ex1 (a b : Nat) (h : b ≤ s.size) : u.extract a b = s.extract a b := by
  refine ba_ext ?_
  rw [Lib.extract_data, Lib.extract_data, hu, List.append_assoc]
  rw [List.drop_append, List.take_append]
  rw [Lib.size_eq] at h
  rcases Nat.lt_or_ge a b with hab | hab
  · rw [show b - a - (List.drop a s.data.toList).length = 0 from by rw [List.length_drop]; omega]; simp
  · rw [show b - a = 0 from by omega]; simp
theorem join_ex2 (a b : Nat) : u.extract (s.size + 1 + a) (s.size + 1 + b) = t.extract a b := by
  refine ba_ext ?_
  rw [Lib.extract_data, Lib.extract_data, hu]
  rw [show s.size + 1 + b - (s.size + 1 + a) = b - a from by omega]
  rw [List.drop_append]
  have hl : (s.data.toList ++ [10]).length = s.size + 1 := by rw [List.length_append, ← Lib.size_eq]; rfl
  rw [List.drop_eq_nil_of_le (by rw [hl]; omega), hl, show s.size + 1 + a - (s.size + 1) = a from by omega, List.nil_append]

theorem join_skip1 : ∀ n c a, s.size - a = n → a ≤ s.size →
    (skipG s c a < s.size → skipG u c a = skipG s c a) ∧ (skipG s c a = s.size → skipG u c a = skipG u false (s.size + 1)) := by
  have hsz := join_size s t u hu
  intro n
  induction n with
  | zero =>
    intro c a hn ha
    have hae : a = s.size := by omega
    subst hae
    rw [skipG_end s c _ (Nat.le_refl _)]
    refine ⟨fun h => absurd h (by omega), fun _ => ?_⟩
    rw [skipG, if_pos (by omega), join_nl s t u hu]
    cases c <;> simp [isBI]
  | succ n ih =>
    intro c a hn ha
    have hat := join_at1 s t u hu a (by omega)
    rw [skipG.eq_def s c a, skipG.eq_def u c a, if_pos (show a < s.size by omega), if_pos (show a < u.size by omega), hat]
    repeat' split
    all_goals first | exact ih _ _ (by omega) (by omega) | exact ⟨fun _ => rfl, fun h => absurd h (by omega)⟩
theorem join_skip2 : ∀ n c a, t.size - a = n → a ≤ t.size → skipG u c (s.size + 1 + a) = s.size + 1 + skipG t c a := by
  have hsz := join_size s t u hu
  intro n
  induction n with
  | zero =>
    intro c a hn ha
    rw [skipG_end t c _ (by omega), skipG_end u c _ (by omega)]
  | succ n ih =>
    intro c a hn ha
    have hat := join_at2 s t u hu a (by omega)
    rw [skipG.eq_def t c a, skipG.eq_def u c _, if_pos (show a < t.size by omega), if_pos (show s.size + 1 + a < u.size by omega), hat]
    repeat' split
    all_goals first | exact ih true (a + 1) (by omega) (by omega) | exact ih false (a + 1) (by omega) (by omega) | rfl
theorem join_word1 : ∀ n a, s.size - a = n → a ≤ s.size → wordEnd u a = wordEnd s a := by
  have hsz := join_size s t u hu
  intro n
  induction n with
  | zero =>
    intro a hn ha
    have hae : a = s.size := by omega
    subst hae
    rw [wordEnd.eq_def u s.size, wordEnd.eq_def s s.size, if_neg (fun h => by rw [join_nl s t u hu] at h; exact absurd h.2 (by decide)), if_neg (fun h => by omega)]
  | succ n ih =>
    intro a hn ha
    have hat := join_at1 s t u hu a (by omega)
    rw [wordEnd.eq_def u a, wordEnd.eq_def s a, hat]
    by_cases h : isWI (at' s a) = true
    · rw [if_pos ⟨by omega, h⟩, if_pos ⟨by omega, h⟩]; exact ih _ (by omega) (by omega)
    · rw [if_neg (fun x => h x.2), if_neg (fun x => h x.2)]
theorem join_word2 : ∀ n a, t.size - a = n → a ≤ t.size → wordEnd u (s.size + 1 + a) = s.size + 1 + wordEnd t a := by
  have hsz := join_size s t u hu
  intro n
  induction n with
  | zero =>
    intro a hn ha
    rw [wordEnd.eq_def u _, wordEnd.eq_def t a, if_neg (fun h => by omega), if_neg (fun h => by omega)]
  | succ n ih =>
    intro a hn ha
    have hat := join_at2 s t u hu a (by omega)
    rw [wordEnd.eq_def u _, wordEnd.eq_def t a, hat]
    by_cases h : isWI (at' t a) = true
    · rw [if_pos ⟨by omega, h⟩, if_pos ⟨by omega, h⟩]; exact ih (a + 1) (by omega) (by omega)
    · rw [if_neg (fun x => h x.2), if_neg (fun x => h x.2)]

theorem join_tok1 (b : Nat) (hb : b < s.size) : tokAt u b = tokAt s b := by
  have hsz := join_size s t u hu
  unfold tokAt
  have hw := wordEnd_le s _ (b + 1) rfl (by omega)
  rw [join_at1 s t u hu b hb, join_word1 s t u hu _ (b + 1) rfl (by omega), join_ex1 s t u hu _ _ hw.2, if_neg (show ¬ u.size ≤ b by omega), if_neg (show ¬ s.size ≤ b by omega)]
end

def shT (n : Nat) (r : Tok × Nat × Int) : Tok × Nat × Int := (if r.2.2 = 0 then r.1.to (r.1.a + n) else r.1, r.2.1 + n, r.2.2)
section
variable (s t u : ByteArray) (hu : u.data.toList = s.data.toList ++ [10] ++ t.data.toList)
include hu
theorem join_tok2 (b : Nat) (hb : b ≤ t.size) : tokAt u (s.size + 1 + b) = shT (s.size + 1) (tokAt t b) := by
  have hsz := join_size s t u hu
  unfold tokAt
  by_cases h0 : t.size ≤ b
  · rw [if_pos h0, if_pos (by omega)]
    simp [shT, Tok.to]; omega
  · have hex : wordEnd u (s.size + 1 + b + 1) = s.size + 1 + wordEnd t (b + 1) := by
      have := join_word2 s t u hu _ (b + 1) rfl (by omega)
      rw [← this]; rfl
    rw [if_neg h0, if_neg (by omega), join_at2 s t u hu b (by omega), hex, join_ex2 s t u hu]
    have hc1 : s.size + 1 + b = b + (s.size + 1) := by omega
    have hc2 : s.size + 1 + wordEnd t (b + 1) = wordEnd t (b + 1) + (s.size + 1) := by omega
    have hc3 : s.size + 1 + b + 1 = b + 1 + (s.size + 1) := by omega
    rw [hc3, hc2, hc1]
    repeat' split
    all_goals simp_all [shT, Tok.to, zTok]
theorem join_next2 (a : Nat) (ha : a ≤ t.size) : nextOf u (s.size + 1 + a) = shT (s.size + 1) (nextOf t a) := by
  unfold nextOf
  rw [join_skip2 s t u hu _ false a rfl ha]
  exact join_tok2 s t u hu _ (skipG_le t _ false a rfl ha)
theorem join_next1 (a : Nat) (ha : a ≤ s.size) : (skipG s false a < s.size ∧ nextOf u a = nextOf s a) ∨ (nextOf s a = (⟨9, ⟨#[]⟩, 0, s.size⟩, s.size, 0) ∧ nextOf u a = nextOf u (s.size + 1)) := by
  have hle := skipG_le s _ false a rfl ha
  obtain ⟨h1, h2⟩ := join_skip1 s t u hu _ false a rfl ha
  unfold nextOf
  rcases Nat.lt_or_ge (skipG s false a) s.size with h | h
  · rw [h1 h]; exact .inl ⟨h, join_tok1 s t u hu _ h⟩
  · rw [h2 (by omega)]
    refine .inr ⟨?_, rfl⟩
    unfold tokAt
    rw [if_pos h]
omit hu in
theorem toks_congr (a b : Nat) (h : nextOf u a = nextOf u b) (ha : a ≤ u.size) (hb : b ≤ u.size) : toks u a = toks u b := by
  by_cases he : (nextOf u a).2.2 = 0
  · by_cases hk : (nextOf u a).1.k = 9
    · rw [toks_end he hk, toks_end (by rw [← h]; exact he) (by rw [← h]; exact hk), h]
    · rw [toks_more ha he hk, toks_more hb (by rw [← h]; exact he) (by rw [← h]; exact hk), h]
  · rw [toks_err he, toks_err (by rw [← h]; exact he), h]

theorem join_toks2 : ∀ n a, t.size - a = n → a ≤ t.size → (toks u (s.size + 1 + a)).2.1 = (toks t a).2.1 ∧ (toks u (s.size + 1 + a)).1 = (toks t a).1.map (fun x => x.to (x.a + (s.size + 1))) := by
  have hsz := join_size s t u hu
  intro n
  induction n using Nat.strongRecOn with
  | ind n ih =>
    intro a hn ha
    have hx := join_next2 s t u hu a ha
    by_cases he : (nextOf t a).2.2 = 0
    · by_cases hk : (nextOf t a).1.k = 9
      · have e1 : (nextOf u (s.size + 1 + a)).2.2 = 0 := by rw [hx]; exact he
        have e2 : (nextOf u (s.size + 1 + a)).1.k = 9 := by rw [hx]; simp [shT, he, Tok.to, hk]
        rw [toks_end e1 e2, toks_end he hk, hx]
        simp [shT, he]
      · have hp := nextOf_place t a ha he hk
        have e1 : (nextOf u (s.size + 1 + a)).2.2 = 0 := by rw [hx]; exact he
        have e2 : (nextOf u (s.size + 1 + a)).1.k ≠ 9 := by rw [hx]; simpa [shT, he, Tok.to] using hk
        rw [toks_more (by omega) e1 e2, toks_more ha he hk, hx]
        have := ih (t.size - (nextOf t a).2.1) (by omega) _ rfl hp.2
        simp only [shT, he, if_true]
        rw [show (nextOf t a).2.1 + (s.size + 1) = s.size + 1 + (nextOf t a).2.1 from by omega]
        exact ⟨this.1, by rw [this.2]; rfl⟩
    · have e1 : (nextOf u (s.size + 1 + a)).2.2 ≠ 0 := by rw [hx]; exact he
      rw [toks_err e1, toks_err he, hx]
      exact ⟨rfl, rfl⟩

theorem join_toks1 : ∀ n a, s.size - a = n → a ≤ s.size →
    ((toks s a).2.1 ≠ 0 → (toks u a).2.1 ≠ 0) ∧ ((toks s a).2.1 = 0 → (toks u a).2.1 = (toks u (s.size + 1)).2.1 ∧ (toks u a).1 = (toks s a).1.dropLast ++ (toks u (s.size + 1)).1) := by
  have hsz := join_size s t u hu
  intro n
  induction n using Nat.strongRecOn with
  | ind n ih =>
    intro a hn ha
    rcases join_next1 s t u hu a ha with ⟨hlt, hx⟩ | ⟨h1, h2⟩
    · by_cases he : (nextOf s a).2.2 = 0
      · by_cases hk : (nextOf s a).1.k = 9
        · have hr := tokAt_kind s _ hlt he
          exact absurd hk hr
        · have hp := nextOf_place s a ha he hk
          rw [toks_more (s := u) (a := a) (by omega) (by rw [hx]; exact he) (by rw [hx]; exact hk), toks_more ha he hk, hx]
          obtain ⟨i1, i2⟩ := ih (s.size - (nextOf s a).2.1) (by omega) _ rfl hp.2
          refine ⟨i1, fun h => ?_⟩
          obtain ⟨j1, j2⟩ := i2 h
          refine ⟨j1, ?_⟩
          obtain ⟨L, hL, _⟩ := toks_last s _ (nextOf s a).2.1 rfl hp.2 h
          show _ :: (toks u (nextOf s a).2.1).1 = _
          rw [j2, hL, List.dropLast_concat, List.dropLast_cons_of_ne_nil (by simp), List.dropLast_concat]
          rfl
      · rw [toks_err (s := u) (a := a) (by rw [hx]; exact he), toks_err he, hx]
        exact ⟨fun h => h, fun h => absurd h he⟩
    · have h3 : toks s a = ([⟨9, ⟨#[]⟩, 0, s.size⟩], 0, 0) := by rw [toks_end (by rw [h1]) (by rw [h1]), h1]
      rw [h3, toks_congr u a (s.size + 1) h2 (by omega) (by omega)]
      exact ⟨fun h => absurd rfl h, fun _ => ⟨rfl, by simp⟩⟩
end
end Go.Proofs.Ytnnjhafjcdjobaa

namespace Go.Proofs.Ytnnjhafjcdjobaa
open Go.RowKit
set_option linter.unusedVariables false
set_option linter.unusedSimpArgs false

section
variable {P : Program} {d : Nat} {xs ys : Array Value} {f : Field} {fs : List Field} {a b : Value} {r s : Bool} {w : World}
theorem sq_one (hn : (f.name == "_") = false) (ha : (part f.type xs f.offset).run P w = .ok a w) (hb : (part f.type ys f.offset).run P w = .ok b w) (he : (Op.equalIn d f.type a b).run P w = .ok r w) : (Op.eqFields d xs ys [f]).run P w = .ok r w := by
  have hne : f.name ≠ "_" := by simpa using hn
  rw [Op.eqFields, if_pos hne]
  simp only [Sem.run_bind, ha, hb, he, Result.andThen_ok]
  cases r <;> simp [Op.eqFields]
theorem sq_more (hn : (f.name == "_") = false) (ha : (part f.type xs f.offset).run P w = .ok a w) (hb : (part f.type ys f.offset).run P w = .ok b w) (he : (Op.equalIn d f.type a b).run P w = .ok r w) (hr : (Op.eqFields d xs ys fs).run P w = .ok s w) : (Op.eqFields d xs ys (f :: fs)).run P w = .ok (r && s) w := by
  have hne : f.name ≠ "_" := by simpa using hn
  rw [Op.eqFields, if_pos hne]
  simp only [Sem.run_bind, ha, hb, he, Result.andThen_ok]
  cases r
  · simp
  · simpa using hr
theorem sq_struct {t : TypeId} {fs : Array Field} (hu : P.underlying t = some (.struct fs)) (hp : P.stoodInHeld t = false) (h : (Op.eqFields d xs ys fs.toList).run P w = .ok r w) : (Op.equalIn (d + 1) t (.agg xs) (.agg ys)).run P w = .ok r w := by
  have hf : P.fieldsOf t = fs := by simp [Program.fieldsOf, hu]
  rw [run_equalIn_struct (P := P) w d t xs ys (by rw [hf]; exact hu) hp, hf]
  exact h
end
theorem eqTok (d : Nat) (w : World) (k n a : Int) (t : ByteArray) :
    (Op.equalIn (d + 2) 65 (.agg #[.int .u8 k, .string t, .int .i64 n, .int .i64 a]) (.agg #[.int .u8 k, .string t, .int .i64 n, .int .i64 a])).run Try.prog w = .ok true w := by
  have h : (Op.equalIn (d + 2) 65 (.agg #[.int .u8 k, .string t, .int .i64 n, .int .i64 a]) (.agg #[.int .u8 k, .string t, .int .i64 n, .int .i64 a])).run Try.prog w = .ok (true && (true && (true && true))) w := by
    refine sq_struct Try.underlying65 (by kernel_rfl) ?_
    refine sq_more (by rfl) (by go_simp; rfl) (by go_simp; rfl) (by go_simp) ?_
    refine sq_more (by rfl) (by go_simp; rfl) (by go_simp; rfl) (by go_simp) ?_
    refine sq_more (by rfl) (by go_simp; rfl) (by go_simp; rfl) (by go_simp) ?_
    exact sq_one (by rfl) (by go_simp; rfl) (by go_simp; rfl) (by go_simp)
  exact h
attribute [local go_sem high] eqTok

/-- A slice that reads as a list of tokens. -/
def Toks (w : World) (g : Nat) (L : List Tok) : Prop := g < w.heap.size ∧ ∀ j u, (tokCells L)[j]? = some u → w.cell? ⟨g, j, none⟩ = some u
theorem Toks.new {w w' : World} {g : Nat} {L : List Tok} (h : Toks w g L) (hn : New w w') : Toks w' g L :=
  ⟨Nat.lt_of_lt_of_le h.1 hn.size, fun j u hj => hn.cell (h.2 j u hj) (fun x => x)⟩
theorem tokCells_at (L : List Tok) (i : Nat) (x : Tok) (h : L[i]? = some x) (j : Nat) (hj : j < 4) : (tokCells L)[i * 4 + j]? = x.cells[j]? := by
  induction L generalizing i with
  | nil => simp at h
  | cons y L ih =>
    simp only [tokCells, List.flatMap_cons]
    cases i with
    | zero =>
      simp at h
      subst h
      rw [Nat.zero_mul, Nat.zero_add, List.getElem?_append_left (by simp [Tok.cells]; omega)]
    | succ i =>
      rw [List.getElem?_append_right (by simp [Tok.cells]; omega)]
      have := ih i (by simpa using h)
      rw [show (i + 1) * 4 + j - y.cells.length = i * 4 + j from by simp [Tok.cells]; omega]
      exact this
theorem Toks.at_ {w : World} {g : Nat} {L : List Tok} (h : Toks w g L) {i : Nat} {x : Tok} (hi : L[i]? = some x) :
    w.cell? ⟨g, i * 4, none⟩ = some (.int .u8 x.k) ∧ w.cell? ⟨g, i * 4 + 1, none⟩ = some (.string x.t) ∧ w.cell? ⟨g, i * 4 + 2, none⟩ = some (.int .i64 x.n) ∧ w.cell? ⟨g, i * 4 + 3, none⟩ = some (.int .i64 x.a) := by
  refine ⟨h.2 _ _ ?_, h.2 _ _ ?_, h.2 _ _ ?_, h.2 _ _ ?_⟩
  · have := tokCells_at L i x hi 0 (by omega); simpa [Tok.cells] using this
  · have := tokCells_at L i x hi 1 (by omega); simpa [Tok.cells] using this
  · have := tokCells_at L i x hi 2 (by omega); simpa [Tok.cells] using this
  · have := tokCells_at L i x hi 3 (by omega); simpa [Tok.cells] using this
theorem Toks.of_own {w : World} {base g m cap : Nat} {L : List Tok} (h : w.ownsRow base 65 4 (.slice (some ⟨g, 0, none⟩) m cap) m (tokCells L)) : Toks w g L := by
  refine ⟨(own_lt h g rfl).2, fun j u hj => ?_⟩
  have := own_cells h j u hj
  have e : Addr.add ⟨g, 0, none⟩ j = ⟨g, j, none⟩ := by unfold Addr.add; split <;> simp_all
  rw [← e]; exact this

theorem toks_len (s : ByteArray) : ∀ n a, s.size - a = n → a ≤ s.size → (toks s a).1.length ≤ s.size - a + 1 := by
  intro n
  induction n using Nat.strongRecOn with
  | ind n ih =>
    intro a hn ha
    by_cases he : (nextOf s a).2.2 = 0
    · by_cases hk : (nextOf s a).1.k = 9
      · rw [toks_end he hk]; simp
      · have hp := nextOf_place s a ha he hk
        rw [toks_more ha he hk]
        have := ih (s.size - (nextOf s a).2.1) (by omega) _ rfl hp.2
        simp only [List.length_cons]
        omega
    · rw [toks_err he]; simp

/-- A text has no tokens: it is too long, or something in it is wrong. -/
def tokErr (s : ByteArray) : Prop := decide ((65536 : Int) < s.size) = true ∨ (toks s 0).2.1 ≠ 0
theorem tokErr_not {s : ByteArray} (h : ¬ tokErr s) : decide ((65536 : Int) < s.size) = false ∧ (toks s 0).2.1 = 0 := by
  refine ⟨?_, ?_⟩
  · cases hd : decide ((65536 : Int) < s.size) with
    | false => rfl
    | true => exact absurd (.inl hd) h
  · by_cases hd : (toks s 0).2.1 = 0
    · exact hd
    · exact absurd (.inr hd) h
theorem tokens_bad (s : ByteArray) (hs : Small s) (h : tokErr s) : ∃ er pl : Int, (er != 0) = true ∧ ∀ w, Calls Try.prog 27 #[.string s] w fun e w' => e = .returned (.tuple #[.slice none 0 0, .int .i64 er, .int .i64 pl]) ∧ New w w' := by
  have hsz := hs.le
  by_cases hm : decide ((65536 : Int) < s.size) = true
  · refine ⟨2, 0, rfl, fun w => ?_⟩
    clear h
    go_enter Try.func27, Try.ntmps27
    go_wp2
    exact bodyPost_ret (results_tmp3 rfl _ _ _) rfl ⟨rfl, Upd.refl _ _⟩
  · have he : (toks s 0).2.1 ≠ 0 := h.resolve_left hm
    refine ⟨(toks s 0).2.1, (toks s 0).2.2, by simpa using he, fun w => ?_⟩
    refine (tokens_calls s hs (by simpa using hm) w).mono fun e w' ⟨hn, h⟩ => ?_
    rcases h with ⟨_, h⟩ | ⟨h, _⟩
    · exact ⟨h, hn⟩
    · exact absurd h he
theorem tokens_good (s : ByteArray) (hs : Small s) (h : ¬ tokErr s) (w : World) : Calls Try.prog 27 #[.string s] w fun e w' => ∃ g cap, e = .returned (.tuple #[.slice (some ⟨g, 0, none⟩) (toks s 0).1.length cap, .int .i64 0, .int .i64 0]) ∧ New w w' ∧ Toks w' g (toks s 0).1 ∧ w.heap.size ≤ g := by
  obtain ⟨hm, he⟩ := tokErr_not h
  refine (tokens_calls s hs hm w).mono fun e w' ⟨hn, h⟩ => ?_
  rcases h with ⟨h, _⟩ | ⟨_, g, cap, h, ho⟩
  · exact absurd he h
  · exact ⟨g, cap, h, hn, Toks.of_own ho, (own_lt ho g rfl).1⟩

end Go.Proofs.Ytnnjhafjcdjobaa
