/- Lex: tokens with blanks and comments between, in plain Lean. -/
import Derived.Test.YtecoahdeafobkaaLxQ
namespace Go.Proofs.Ytecoahdeafobkaa
open Go.RowKit
set_option linter.unusedVariables false
set_option linter.unusedSimpArgs false

def bI (c : UInt8) : Int := ((c.toNat : Nat) : Int)
/-- Going over a gap: is it within a comment behind it? none: something stands in it. -/
def gapRun : Bool → List UInt8 → Option Bool
  | c, [] => some c
  | true, x :: l => if bI x = 10 then gapRun false l else gapRun true l
  | false, x :: l => if isBI (bI x) then gapRun false l else if bI x = 59 then gapRun true l else none

theorem at_list (T : ByteArray) (pre g post : List UInt8) (h : T.data.toList = pre ++ g ++ post) (j : Nat) (hj : j < g.length) : at' T (pre.length + j) = bI (g.getD j 0) := by
  unfold at' bI
  rw [h]
  congr 2
  simp only [List.getD, List.append_assoc]
  rw [List.getElem?_append_right (by omega), Nat.add_sub_cancel_left, List.getElem?_append_left hj]
theorem size_list (T : ByteArray) (l : List UInt8) (h : T.data.toList = l) : T.size = l.length := by rw [Lib.size_eq, h]

theorem gapRun_skip (T : ByteArray) : ∀ (g : List UInt8) (c c' : Bool) (pre post : List UInt8), T.data.toList = pre ++ g ++ post → gapRun c g = some c' →
    skipG T c pre.length = skipG T c' (pre.length + g.length) := by
  intro g
  induction g with
  | nil => intro c c' pre post h hg; simp only [gapRun, Option.some.injEq] at hg; rw [hg]; rfl
  | cons x g ih =>
    intro c c' pre post h hg
    have hsz := size_list T _ h
    simp only [List.length_append, List.length_cons] at hsz
    have h0 := at_list T pre (x :: g) post h 0 (by simp)
    simp only [Nat.add_zero, List.getD_cons_zero] at h0
    have hT : T.data.toList = (pre ++ [x]) ++ g ++ post := by rw [h]; simp
    have hl : pre.length + (x :: g).length = (pre ++ [x]).length + g.length := by simp; omega
    have hl1 : pre.length + 1 = (pre ++ [x]).length := by simp
    rw [skipG, if_pos (by omega), h0, hl, hl1]
    cases c with
    | true =>
      simp only [gapRun] at hg
      simp only [if_true]
      split at hg
      · rename_i e; rw [if_pos e]; exact ih _ _ _ _ hT hg
      · rename_i e; rw [if_neg e]; exact ih _ _ _ _ hT hg
    | false =>
      simp only [gapRun] at hg
      simp only [Bool.false_eq_true, if_false]
      split at hg
      · rename_i e; rw [if_pos e]; exact ih _ _ _ _ hT hg
      · rename_i e
        rw [if_neg e]
        split at hg
        · rename_i e2; rw [if_pos e2]; exact ih _ _ _ _ hT hg
        · exact absurd hg (by simp)

def IsGap (g : List UInt8) : Prop := gapRun false g = some false ∧ ∃ x l, g = x :: l ∧ isWI (bI x) = false

/-- A token's own bytes. -/
def own (s : ByteArray) (p : Tok × Nat) : List UInt8 := (s.extract p.1.a p.2).data.toList
/-- Gaps, each with a token behind it. -/
def spread (s : ByteArray) : List (List UInt8 × Tok × Nat) → List UInt8
  | [] => []
  | y :: l => y.1 ++ (if y.2.1.k = 9 then [] else own s y.2) ++ spread s l
theorem spread_append (s : ByteArray) (l m : List (List UInt8 × Tok × Nat)) : spread s (l ++ m) = spread s l ++ spread s m := by
  induction l with
  | nil => rfl
  | cons y l ih => simp only [List.cons_append, spread, ih, List.append_assoc]

theorem extract_list (T : ByteArray) (pre o post : List UInt8) (h : T.data.toList = pre ++ o ++ post) : (T.extract pre.length (pre.length + o.length)).data.toList = o := by
  rw [Lib.extract_data, h]
  simp
theorem ba_ext {a b : ByteArray} (h : a.data.toList = b.data.toList) : a = b := by
  obtain ⟨⟨a⟩⟩ := a
  obtain ⟨⟨b⟩⟩ := b
  simp at h
  rw [h]

theorem spread_toks (s T : ByteArray) : ∀ (l : List (List UInt8 × Tok × Nat)) (pre : List UInt8), l ≠ [] → T.data.toList = pre ++ spread s l →
    (∀ y ∈ l, IsGap y.1) → (∀ i y, l[i]? = some y → (i + 1 < l.length → Reads s y.2.1.a y.2.2 y.2.1) ∧ (i + 1 = l.length → y.2.1 = ⟨9, ⟨#[]⟩, 0, s.size⟩)) →
    (toks T pre.length).2.1 = 0 ∧ (toks T pre.length).1.map (·.to 0) = l.map (fun y => y.2.1.to 0) := by
  intro l
  induction l with
  | nil => intro pre h; exact absurd rfl h
  | cons y l ih =>
    intro pre _ hT hg hr
    obtain ⟨g, x, p⟩ := y
    have hg0 := hg (g, x, p) (by simp)
    obtain ⟨hx0, hx1⟩ := hr 0 (g, x, p) rfl
    simp only at hx0 hx1 hg0
    simp only [spread] at hT
    rcases Nat.eq_zero_or_pos l.length with h0 | h0
    · have hl : l = [] := List.eq_nil_of_length_eq_zero h0
      subst hl
      have hx := hx1 (by simp)
      subst hx
      simp only [if_true, spread, List.append_nil] at hT
      have hsk := gapRun_skip T g false false pre [] (by simpa using hT) hg0.1
      have hsz := size_list T _ hT
      simp only [List.length_append] at hsz
      have hn : nextOf T pre.length = (⟨9, ⟨#[]⟩, 0, T.size⟩, T.size, 0) := by
        unfold nextOf
        rw [hsk, skipG_end _ _ _ (by omega)]
        unfold tokAt
        rw [if_pos (by omega)]
      rw [toks_end (by rw [hn]) (by rw [hn]), hn]
      exact ⟨rfl, rfl⟩
    · have hrd := hx0 (by simp; omega)
      have hkd := hrd.kind
      have hlt := hrd.lt
      have hhd := hrd.head
      rw [if_neg (by show x.k ≠ 9; omega)] at hT
      have hol : (own s (x, p)).length = p - x.a := by
        unfold own
        rw [← Lib.size_eq, ByteArray.size_extract]
        show min p s.size - x.a = p - x.a
        omega
      generalize ho : own s (x, p) = o at *
      have hsk := gapRun_skip T g false false pre (o ++ spread s l) (by rw [hT]; simp) hg0.1
      have hT2 : T.data.toList = (pre ++ g) ++ o ++ spread s l := by rw [hT]; simp
      have hT3 : T.data.toList = ((pre ++ g) ++ o) ++ spread s l := hT2
      have hex : T.extract (pre ++ g).length ((pre ++ g).length + (p - x.a)) = s.extract x.a p := by
        refine ba_ext ?_
        rw [← hol, extract_list T (pre ++ g) o _ hT2, ← ho]
        rfl
      have hsz := size_list T _ hT2
      simp only [List.length_append] at hsz
      obtain ⟨g2, hg2⟩ : ∃ g2, l[0]? = some g2 := ⟨_, List.getElem?_eq_getElem h0⟩
      have hnw : isWI (at' T ((pre ++ g).length + (p - x.a))) = false := by
        obtain ⟨z, m, hz, hw⟩ := (hg g2 (List.mem_cons_of_mem _ (List.mem_of_getElem? hg2))).2
        have hl2 : spread s l = z :: (m ++ (if g2.2.1.k = 9 then [] else own s g2.2) ++ spread s l.tail) := by
          cases l with
          | nil => simp at h0
          | cons a l =>
            simp at hg2
            subst hg2
            simp only [spread, hz, List.tail_cons, List.cons_append, List.append_assoc]
        have := at_list T ((pre ++ g) ++ o) [z] (m ++ (if g2.2.1.k = 9 then [] else own s g2.2) ++ spread s l.tail) (by rw [hT3, hl2]; simp) 0 (by simp)
        simp only [Nat.add_zero, List.getD_cons_zero] at this
        rw [← hol, show (pre ++ g).length + o.length = ((pre ++ g) ++ o).length from by simp only [List.length_append], this]
        exact hw
      have h0T : at' T (pre ++ g).length = at' s x.a := by
        have h1 := at_extract T (pre ++ g).length ((pre ++ g).length + (p - x.a)) 0 (by omega)
        rw [hex, at_extract s x.a p 0 (by omega)] at h1
        simpa using h1.symm
      have htk := reads_move s T x.a p (pre ++ g).length x hrd hex (by simp; omega) (.inr (.inr hnw))
      have hn : nextOf T pre.length = (x.to (pre ++ g).length, (pre ++ g).length + (p - x.a), 0) := by
        unfold nextOf
        rw [hsk, show pre.length + g.length = (pre ++ g).length from by simp, skip_stop (by simp; omega) (by rw [h0T]; exact hhd.1) (by rw [h0T]; exact hhd.2), htk]
      have hlp : (pre ++ g).length + (p - x.a) = ((pre ++ g) ++ o).length := by simp; omega
      obtain ⟨i1, i2⟩ := ih ((pre ++ g) ++ o) (by intro e; subst e; simp at h0) hT3 (fun y hy => hg y (List.mem_cons_of_mem _ hy)) (fun i y hi => by
        obtain ⟨a, b⟩ := hr (i + 1) y (by simpa using hi)
        exact ⟨fun h => a (by simp; omega), fun h => b (by simp; omega)⟩)
      rw [toks_more (by omega) (by rw [hn]) (by rw [hn]; show x.k ≠ 9; omega), hn]
      simp only
      rw [hlp]
      exact ⟨i1, by rw [List.map_cons, i2]; rfl⟩
end Go.Proofs.Ytecoahdeafobkaa
