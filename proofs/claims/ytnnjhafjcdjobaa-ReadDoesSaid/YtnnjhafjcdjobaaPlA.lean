/- Read: the tokens of data, and how they are parsed, in plain Lean. Read: what is parsed are data, not too deep, not too many, in plain Lean. Read: the tokens of a text that was written, in plain Lean. Read: there and back, and tails that are lists, in plain Lean. -/
import Derived.Test.YtnnjhafjcdjobaaWrG
import Derived.Test.YtnnjhafjcdjobaaLxN
namespace Go.Proofs.Ytnnjhafjcdjobaa
open Go.RowKit
set_option linter.unusedVariables false
set_option linter.unusedSimpArgs false

/-- What parsing sees of a token. -/
abbrev TK := Int × Int × ByteArray
def nf (x : Tok) : TK := (x.k, if x.k = 5 then x.n else 0, if x.k = 6 then x.t else ⟨#[]⟩)
def glue : List (List TK) → Bool → List TK
  | [], _ => []
  | x :: r, dot => (if dot = true ∧ r = [] then [(4, 0, ⟨#[]⟩)] else []) ++ x ++ glue r dot
mutual
def tkD : Dat → List TK
  | .mk k n t l dot =>
    if k = 1 then [(5, n, ⟨#[]⟩)] else if k = 2 then [(6, 0, t)] else if k = 3 then [(7, 0, ⟨#[]⟩)] else if k = 4 then [(8, 0, ⟨#[]⟩)]
    else if isQ l dot = true then (3, 0, ⟨#[]⟩) :: (tkL l).getD 1 []
    else (1, 0, ⟨#[]⟩) :: (glue (tkL l) dot ++ [(2, 0, ⟨#[]⟩)])
def tkL : List Dat → List (List TK)
  | [] => []
  | d :: l => tkD d :: tkL l
end
theorem tkL_map (l : List Dat) : tkL l = l.map tkD := by
  induction l with
  | nil => simp [tkL]
  | cons d l ih => simp [tkL, ih]
/-- The tokens from a place on begin so. -/
def Lies (L : List Tok) (i : Nat) (xs : List TK) : Prop := ∀ j z, xs[j]? = some z → (L[i + j]?).map nf = some z
theorem Lies.left {L : List Tok} {i : Nat} {xs ys : List TK} (h : Lies L i (xs ++ ys)) : Lies L i xs := fun j z hz => h j z (by
  have : j < xs.length := (List.getElem?_eq_some_iff.1 hz).1
  rw [List.getElem?_append_left this]; exact hz)
theorem Lies.right {L : List Tok} {i : Nat} {xs ys : List TK} (h : Lies L i (xs ++ ys)) : Lies L (i + xs.length) ys := fun j z hz => by
  have := h (xs.length + j) z (by rw [List.getElem?_append_right (by omega), Nat.add_sub_cancel_left]; exact hz)
  rw [← Nat.add_assoc] at this; exact this
theorem Lies.tail {L : List Tok} {i : Nat} {x : TK} {ys : List TK} (h : Lies L i (x :: ys)) : Lies L (i + 1) ys := Lies.right (xs := [x]) h
theorem Lies.head {L : List Tok} {i : Nat} {k n : Int} {t : ByteArray} {ys : List TK} (h : Lies L i ((k, n, t) :: ys)) : tokK L i = k ∧ (k = 5 → tokN L i = n) ∧ (k = 6 → tokT L i = t) := by
  have := h 0 (k, n, t) rfl
  rw [Nat.add_zero] at this
  cases hx : L[i]? with
  | none => rw [hx] at this; simp at this
  | some x =>
    rw [hx] at this
    simp only [Option.map_some, Option.some.injEq, nf, Prod.mk.injEq] at this
    obtain ⟨rfl, h2, h3⟩ := this
    unfold tokK tokN tokT
    rw [hx]
    exact ⟨rfl, fun h => by rw [if_pos h] at h2; exact h2, fun h => by rw [if_pos h] at h3; exact h3⟩
/-- What parsing a datum comes to. -/
def Outc {α : Type} (c : Prop) (r : PR α) (v : α) (i m : Nat) : Prop := (c ∧ r = .ok v i m) ∨ (¬ c ∧ ∃ e a, r = .bad e a ∧ (e = 61 ∨ e = 62))
theorem mayD_list {n : Int} {t : ByteArray} {l : List Dat} {dot : Bool} {k : Int} (h : mayD (.mk k n t l dot) = true) (h1 : k ≠ 1) (h2 : k ≠ 2) (h3 : k ≠ 3) (h4 : k ≠ 4) : k = 5 ∧ n = 0 ∧ t = ⟨#[]⟩ ∧ mayL l = true ∧ (dot = true → 2 ≤ l.length ∧ l.getLast?.map Dat.k ≠ some 5) := by
  rw [mayD, if_neg h1] at h
  by_cases hn : n = 0
  · rw [if_neg (by simpa using hn), if_neg h2] at h
    by_cases ht : t.size = 0
    · rw [if_neg (by simpa using ht), if_neg (by omega)] at h
      by_cases h5 : k = 5
      · rw [if_neg (by simpa using h5)] at h
        by_cases hd : dot = true ∧ (l.length < 2 ∨ (l.getLast?.map Dat.k) = some 5)
        · rw [if_pos hd] at h; cases h
        · rw [if_neg hd] at h
          refine ⟨h5, hn, ?_, h, fun hdt => ?_⟩
          · exact ByteArray.size_eq_zero_iff.1 ht
          · exact ⟨by
              rcases Nat.lt_or_ge l.length 2 with h6 | h6
              · exact absurd ⟨hdt, .inl h6⟩ hd
              · exact h6, fun h6 => hd ⟨hdt, .inr h6⟩⟩
      · rw [if_pos h5] at h; cases h
    · rw [if_pos ht] at h; cases h
  · rw [if_pos hn] at h; cases h
theorem mayD_leaf {k n : Int} {t : ByteArray} {l : List Dat} {dot : Bool} (h : mayD (.mk k n t l dot) = true) (h5 : k ≠ 5) : l = [] ∧ dot = false ∧ (k = 1 ∨ k = 2 ∨ k = 3 ∨ k = 4) ∧ (k = 1 → t = ⟨#[]⟩ ∧ -576460752303423488 ≤ n ∧ n < 576460752303423488) ∧ (k ≠ 1 → n = 0) ∧ (k = 2 → symB t = true) ∧ (k = 3 ∨ k = 4 → t = ⟨#[]⟩) := by
  rw [mayD] at h
  by_cases h1 : k = 1
  · subst h1
    simp only [if_true, Bool.and_eq_true, decide_eq_true_eq, List.isEmpty_iff, Bool.not_eq_true'] at h
    obtain ⟨⟨⟨⟨a, b⟩, c⟩, d⟩, e⟩ := h
    exact ⟨a, b, by omega, fun _ => ⟨ByteArray.size_eq_zero_iff.1 c, d, e⟩, by omega, by omega, by omega⟩
  · rw [if_neg h1] at h
    by_cases hn : n = 0
    · rw [if_neg (by simpa using hn)] at h
      by_cases h2 : k = 2
      · subst h2
        simp only [if_true, Bool.and_eq_true, List.isEmpty_iff, Bool.not_eq_true'] at h
        exact ⟨h.1.1, h.1.2, by omega, by omega, fun _ => hn, fun _ => h.2, by omega⟩
      · rw [if_neg h2] at h
        by_cases ht : t.size = 0
        · rw [if_neg (by simpa using ht)] at h
          by_cases h3 : k = 3 ∨ k = 4
          · rw [if_pos h3] at h
            simp only [Bool.and_eq_true, List.isEmpty_iff, Bool.not_eq_true'] at h
            exact ⟨h.1, h.2, by omega, by omega, fun _ => hn, by omega, fun _ => ByteArray.size_eq_zero_iff.1 ht⟩
          · rw [if_neg h3, if_pos h5] at h; cases h
        · rw [if_pos ht] at h; cases h
    · rw [if_pos hn] at h; cases h
theorem isQ_inv {l : List Dat} {dot : Bool} (h : isQ l dot = true) : ∃ a b, l = [a, b] ∧ dot = false ∧ a.k = 2 ∧ a.t = quoteT := by
  unfold isQ at h
  simp only [Bool.and_eq_true, decide_eq_true_eq, Bool.not_eq_true'] at h
  obtain ⟨⟨⟨h1, h2⟩, h3⟩, h4⟩ := h
  match l, h1 with
  | [a, b], _ =>
    simp at h3 h4
    exact ⟨a, b, rfl, h2, h3, h4⟩
/-- The first token of a datum. -/
theorem tkD_head (d : Dat) : ∃ k n t r, tkD d = (k, n, t) :: r ∧ (k = 1 ∨ k = 3 ∨ k = 5 ∨ k = 6 ∨ k = 7 ∨ k = 8) := by
  obtain ⟨k, n, t, l, dot⟩ := d
  rw [tkD]
  repeat' split
  all_goals exact ⟨_, _, _, _, rfl, by omega⟩
theorem tkD_pos (d : Dat) : 1 ≤ (tkD d).length := by
  obtain ⟨k, n, t, r, h, _⟩ := tkD_head d
  rw [h]; simp
theorem glue_cons (x : List TK) (r : List (List TK)) (dot : Bool) : glue (x :: r) dot = (if dot = true ∧ r = [] then [(4, 0, ⟨#[]⟩)] else []) ++ x ++ glue r dot := rfl
def PARSES (d : Dat) : Prop := mayD d = true → ∀ (L : List Tok) (n i o m : Nat), Lies L i (tkD d) → 2 * (tkD d).length ≤ n → o ≤ 100 → m ≤ 10000 → Outc (o + d.deep ≤ 100 ∧ m + d.many ≤ 10000) (pDat L n i o m) d (i + (tkD d).length) (m + d.many)
theorem parse_list (L : List Tok) (dot : Bool) : ∀ (r : List Dat), (∀ d ∈ r, PARSES d) → mayL r = true → ∀ (n i o m : Nat) (acc : List Dat), Lies L i (glue (r.map tkD) dot ++ [(2, 0, ⟨#[]⟩)]) → 2 * ((glue (r.map tkD) dot).length + 1) ≤ n → o ≤ 100 → m ≤ 10000 →
    (dot = true → 1 ≤ r.length ∧ 2 ≤ acc.length + r.length ∧ r.getLast?.map Dat.k ≠ some 5) → Outc (o + deepL r ≤ 100 ∧ m + manyL r ≤ 10000) (pList L n i o m acc) (lst (acc ++ r) dot) (i + ((glue (r.map tkD) dot).length + 1)) (m + manyL r) := by
  intro r
  induction r with
  | nil =>
    intro _ _ n i o m acc hL hn ho hm hd
    cases dot with
    | true => have := (hd rfl).1; simp at this
    | false =>
      obtain ⟨n, rfl⟩ : ∃ k, n = k + 1 := ⟨n - 1, by omega⟩
      simp only [List.map_nil, glue, List.nil_append] at hL
      have h2 := hL.head.1
      rw [pList, if_pos h2]
      exact .inl ⟨⟨by simp [deepL]; omega, by simp [manyL]; omega⟩, by simp [manyL, glue]⟩
  | cons x r ih =>
    intro hp hmay n i o m acc hL hn ho hm hd
    rw [mayL, Bool.and_eq_true] at hmay
    have hpx := hp x (by simp) hmay.1
    obtain ⟨n, rfl⟩ : ∃ k, n = k + 1 := ⟨n - 1, by omega⟩
    rw [List.map_cons, glue_cons] at hL hn ⊢
    have hpos := tkD_pos x
    obtain ⟨kx, nx, tx, rx, hxe, hxk⟩ := tkD_head x
    by_cases hdr : dot = true ∧ r = []
    · obtain ⟨rfl, rfl⟩ := hdr
      have hd' := hd rfl
      simp only [List.map_nil, and_self, if_true, glue, List.append_nil, List.nil_append, List.singleton_append, List.cons_append, List.length_cons] at hL hn ⊢
      have h4 := hL.head.1
      have hx := hL.tail.left
      have h2 := hL.tail.right.head.1
      simp only [List.length_cons, List.length_nil, List.getLast?_singleton, Option.map_some, ne_eq, Option.some.injEq] at hd'
      have ho1 := hpx L n (i + 1) o m hx (by omega) ho hm
      rw [pList, if_neg (by omega), if_pos ⟨by omega, h4⟩]
      simp only [deepL, manyL, Nat.max_zero, Nat.add_zero]
      rcases ho1 with ⟨hc, hr⟩ | ⟨hc, e, a, hr, he⟩
      · refine .inl ⟨hc, ?_⟩
        rw [hr]
        simp only [h2, if_true]
        rw [joinD, if_neg hd'.2.2]
        congr 1
        omega
      · refine .inr ⟨hc, e, a, ?_, he⟩
        rw [hr]
    · have hre : (if dot = true ∧ (r.map tkD) = [] then [((4 : Int), (0 : Int), (⟨#[]⟩ : ByteArray))] else []) = [] := by
        rw [if_neg]; simpa using hdr
      rw [hre] at hL hn ⊢
      simp only [List.nil_append, List.append_assoc, List.length_append] at hL hn ⊢
      have hx := hL.left
      have hrest := hL.right
      have hxk2 : tokK L i = kx := by rw [hxe] at hx; exact hx.head.1
      have ho1 := hpx L n i o m hx (by omega) ho hm
      rw [pList, if_neg (by omega), if_neg (by omega)]
      rw [deepL, manyL]
      rcases ho1 with ⟨hc, hr⟩ | ⟨hc, e, a, hr, he⟩
      · rw [hr]
        have hi := ih (fun d hd => hp d (List.mem_cons_of_mem _ hd)) hmay.2 n (i + (tkD x).length) o (m + x.many) (acc ++ [x]) hrest (by omega) ho (by omega) (by
          intro hdt
          have h7 := hd hdt
          have hrn : r ≠ [] := fun e => hdr ⟨hdt, e⟩
          refine ⟨by cases r with | nil => exact absurd rfl hrn | cons _ _ => simp, by simp only [List.length_append, List.length_cons, List.length_nil] at h7 ⊢; omega, ?_⟩
          have h8 := h7.2.2
          cases r with
          | nil => exact absurd rfl hrn
          | cons y r => rw [List.getLast?_cons_cons] at h8; exact h8)
        simp only
        rcases hi with ⟨hc2, hr2⟩ | ⟨hc2, e, a, hr2, he⟩
        · refine .inl ⟨⟨by omega, by omega⟩, ?_⟩
          rw [hr2, List.append_assoc, List.singleton_append]
          congr 1 <;> omega
        · exact .inr ⟨fun h => hc2 ⟨by omega, by omega⟩, e, a, hr2, he⟩
      · refine .inr ⟨fun h => hc ⟨by omega, by omega⟩, e, a, ?_, he⟩
        rw [hr]
theorem mayL_all {l : List Dat} (h : mayL l = true) : ∀ d ∈ l, mayD d = true := mayL_mem h
theorem parse_dat : ∀ d, PARSES d := by
  intro d
  induction d using Dat.ind with
  | h k n t l dot ih =>
    intro hmay L fuel i o m hL hn ho hm
    have hk0 := tkD_pos (.mk k n t l dot)
    obtain ⟨fuel, rfl⟩ : ∃ k, fuel = k + 1 := ⟨fuel - 1, by omega⟩
    by_cases h5 : k = 5
    · subst h5
      obtain ⟨-, rfl, rfl, hl, hd⟩ := mayD_list hmay (by decide) (by decide) (by decide) (by decide)
      rw [tkD, if_neg (by decide), if_neg (by decide), if_neg (by decide), if_neg (by decide)] at hL hn ⊢
      by_cases hq : isQ l dot = true
      · rw [if_pos hq] at hL hn ⊢
        obtain ⟨a, b, rfl, rfl, hak, hat⟩ := isQ_inv hq
        have hma := mayL_mem hl a (by simp)
        have hmb := mayL_mem hl b (by simp)
        have hab : a = sym quoteT := by
          obtain ⟨ak, an, at_, al, ad⟩ := a
          simp only [Dat.k, Dat.t] at hak hat
          subst hak hat
          obtain ⟨rfl, rfl, _, _, h, _⟩ := mayD_leaf hma (by decide)
          rw [h (by decide)]; rfl
        have htk : (tkL [a, b]).getD 1 [] = tkD b := by rw [tkL_map]; rfl
        rw [htk] at hL hn ⊢
        have h3 := hL.head.1
        have hb := hL.tail
        simp only [List.length_cons] at hn ⊢
        have hdp : Dat.deep (.mk 5 0 ⟨#[]⟩ [a, b] false) = b.deep + 1 := by
          rw [Dat.deep, if_pos rfl, deepL, deepL, deepL, hab]; simp [sym, Dat.deep]
        have hmn : Dat.many (.mk 5 0 ⟨#[]⟩ [a, b] false) = b.many + 2 := by
          rw [Dat.many, manyL, manyL, manyL, hab]; simp [sym, Dat.many, manyL]; omega
        rw [hdp, hmn, pDat, if_neg (by omega), if_pos h3]
        by_cases h100 : 100 ≤ o
        · rw [if_pos h100]; exact .inr ⟨by omega, _, _, rfl, .inl rfl⟩
        · rw [if_neg h100]
          by_cases h10 : 10000 < m + 2
          · rw [if_pos h10]; exact .inr ⟨by omega, _, _, rfl, .inr rfl⟩
          · rw [if_neg h10]
            have := ih b (by simp) hmb L fuel (i + 1) (o + 1) (m + 2) hb (by omega) (by omega) (by omega)
            rcases this with ⟨hc, hr⟩ | ⟨hc, e, a', hr, he⟩
            · rw [hr]
              refine .inl ⟨by omega, ?_⟩
              simp only
              rw [lst, hab]
              congr 1 <;> omega
            · rw [hr]; exact .inr ⟨by omega, e, a', rfl, he⟩
      · rw [if_neg hq] at hL hn ⊢
        rw [tkL_map] at hL hn ⊢
        have h1 := hL.head.1
        simp only [List.length_cons, List.length_append, List.length_nil] at hn ⊢
        rw [Dat.deep, if_pos rfl, Dat.many, pDat, if_pos h1]
        by_cases h100 : 100 ≤ o
        · rw [if_pos h100]; exact .inr ⟨by omega, _, _, rfl, .inl rfl⟩
        · rw [if_neg h100]
          by_cases h10 : 10000 < m + 1
          · rw [if_pos h10]; exact .inr ⟨by omega, _, _, rfl, .inr rfl⟩
          · rw [if_neg h10]
            have := parse_list L dot l ih hl fuel (i + 1) (o + 1) (m + 1) [] hL.tail (by omega) (by omega) (by omega) (fun h => by have := hd h; exact ⟨by omega, by simp; omega, this.2⟩)
            rcases this with ⟨hc, hr⟩ | ⟨hc, e, a', hr, he⟩
            · refine .inl ⟨by omega, ?_⟩
              rw [hr, lst, List.nil_append]
              congr 1 <;> omega
            · exact .inr ⟨by omega, e, a', hr, he⟩
    · obtain ⟨rfl, rfl, hk4, hk1, hn0, hk2, hk34⟩ := mayD_leaf hmay h5
      have hmn : Dat.many (.mk k n t [] false) = 1 := by rw [Dat.many, manyL]
      have hdp : Dat.deep (.mk k n t [] false) = 0 := by rw [Dat.deep, if_neg h5]
      rw [hmn, hdp]
      rcases hk4 with rfl | rfl | rfl | rfl
      · obtain ⟨rfl, _⟩ := hk1 rfl
        rw [tkD, if_pos rfl] at hL hn ⊢
        obtain ⟨e1, e2, -⟩ := hL.head
        rw [pDat, if_neg (by omega), if_neg (by omega), if_pos (by omega)]
        by_cases h10 : 10000 < m + 1
        · rw [if_pos h10]; exact .inr ⟨by omega, _, _, rfl, .inr rfl⟩
        · rw [if_neg h10]
          exact .inl ⟨by omega, by rw [leafD, if_pos e1, e2 rfl]; rfl⟩
      · have := hn0 (by decide)
        subst this
        rw [tkD, if_neg (by decide), if_pos rfl] at hL hn ⊢
        obtain ⟨e1, -, e2⟩ := hL.head
        rw [pDat, if_neg (by omega), if_neg (by omega), if_pos (by omega)]
        by_cases h10 : 10000 < m + 1
        · rw [if_pos h10]; exact .inr ⟨by omega, _, _, rfl, .inr rfl⟩
        · rw [if_neg h10]
          exact .inl ⟨by omega, by rw [leafD, if_neg (by omega), if_pos e1, e2 rfl]; rfl⟩
      · have := hn0 (by decide)
        subst this
        have := hk34 (by decide)
        subst this
        rw [tkD, if_neg (by decide), if_neg (by decide), if_pos rfl] at hL hn ⊢
        obtain ⟨e1, -, e2⟩ := hL.head
        rw [pDat, if_neg (by omega), if_neg (by omega), if_pos (by omega)]
        by_cases h10 : 10000 < m + 1
        · rw [if_pos h10]; exact .inr ⟨by omega, _, _, rfl, .inr rfl⟩
        · rw [if_neg h10]
          exact .inl ⟨by omega, by rw [leafD, if_neg (by omega), if_neg (by omega), if_pos e1]; rfl⟩
      · have := hn0 (by decide)
        subst this
        have := hk34 (by decide)
        subst this
        rw [tkD, if_neg (by decide), if_neg (by decide), if_neg (by decide), if_pos rfl] at hL hn ⊢
        obtain ⟨e1, -, e2⟩ := hL.head
        rw [pDat, if_neg (by omega), if_neg (by omega), if_pos (by omega)]
        by_cases h10 : 10000 < m + 1
        · rw [if_pos h10]; exact .inr ⟨by omega, _, _, rfl, .inr rfl⟩
        · rw [if_neg h10]
          exact .inl ⟨by omega, by rw [leafD, if_neg (by omega), if_neg (by omega), if_neg (by omega)]; rfl⟩
/-- The tokens of data, one behind the other, to the end. -/
theorem parse_top (L : List Tok) : ∀ (l : List Dat), mayL l = true → ∀ (n i m : Nat) (acc : List Dat), Lies L i (l.flatMap tkD ++ [(9, 0, ⟨#[]⟩)]) → 2 * ((l.flatMap tkD).length + 1) ≤ n + 1 → m ≤ 10000 →
    Outc (deepL l ≤ 100 ∧ m + manyL l ≤ 10000) (pTop L n i m acc) (acc ++ l) (i + (l.flatMap tkD).length) (m + manyL l) := by
  intro l
  induction l with
  | nil =>
    intro _ n i m acc hL hn hm
    obtain ⟨n, rfl⟩ : ∃ k, n = k + 1 := ⟨n - 1, by omega⟩
    rw [pTop, if_pos hL.head.1]
    exact .inl ⟨⟨by simp [deepL], by simp [manyL]; omega⟩, by simp [manyL]⟩
  | cons x l ih =>
    intro hmay n i m acc hL hn hm
    rw [mayL, Bool.and_eq_true] at hmay
    have hpos := tkD_pos x
    obtain ⟨kx, nx, tx, rx, hxe, hxk⟩ := tkD_head x
    simp only [List.flatMap_cons, List.append_assoc, List.length_append] at hL hn ⊢
    obtain ⟨n, rfl⟩ : ∃ k, n = k + 1 := ⟨n - 1, by omega⟩
    have hx := hL.left
    have hxk2 : tokK L i = kx := by rw [hxe] at hx; exact hx.head.1
    rw [pTop, if_neg (by omega), deepL, manyL]
    have ho1 := parse_dat x hmay.1 L n i 0 m hx (by omega) (by omega) hm
    rcases ho1 with ⟨hc, hr⟩ | ⟨hc, e, a, hr, he⟩
    · rw [hr]
      simp only
      have hi := ih hmay.2 n (i + (tkD x).length) (m + x.many) (acc ++ [x]) hL.right (by omega) (by omega)
      rcases hi with ⟨hc2, hr2⟩ | ⟨hc2, e, a, hr2, he⟩
      · refine .inl ⟨⟨by omega, by omega⟩, ?_⟩
        rw [hr2, List.append_assoc, List.singleton_append]
        congr 1 <;> omega
      · exact .inr ⟨fun h => hc2 ⟨by omega, by omega⟩, e, a, hr2, he⟩
    · exact .inr ⟨fun h => hc ⟨by omega, by omega⟩, e, a, by rw [hr], he⟩
end Go.Proofs.Ytnnjhafjcdjobaa

namespace Go.Proofs.Ytnnjhafjcdjobaa
open Go.RowKit
set_option linter.unusedVariables false
set_option linter.unusedSimpArgs false

/-- Tokens whose numbers and names are good. -/
def GoodT (L : List Tok) : Prop := ∀ x ∈ L, (x.k = 5 → -576460752303423488 ≤ x.n ∧ x.n < 576460752303423488) ∧ (x.k = 6 → symB x.t = true ∧ Small x.t)
theorem GoodT.num {L : List Tok} (h : GoodT L) {i : Nat} (hk : tokK L i = 5) : -576460752303423488 ≤ tokN L i ∧ tokN L i < 576460752303423488 := by
  unfold tokK at hk; unfold tokN
  cases hx : L[i]? with
  | none => rw [hx] at hk; exact absurd hk (by decide)
  | some x => rw [hx] at hk; exact (h x (List.mem_of_getElem? hx)).1 hk
theorem GoodT.sym {L : List Tok} (h : GoodT L) {i : Nat} (hk : tokK L i = 6) : symB (tokT L i) = true ∧ Small (tokT L i) := by
  unfold tokK at hk; unfold tokT
  cases hx : L[i]? with
  | none => rw [hx] at hk; exact absurd hk (by decide)
  | some x => rw [hx] at hk; exact (h x (List.mem_of_getElem? hx)).2 hk
theorem small0 : Small ⟨#[]⟩ := by unfold Small; decide
theorem leaf_may {L : List Tok} (h : GoodT L) {i : Nat} (hk : 5 ≤ tokK L i ∧ tokK L i ≤ 8) : mayD (leafD L i) = true ∧ (leafD L i).deep = 0 ∧ (leafD L i).many = 1 ∧ (leafD L i).wee := by
  unfold leafD
  by_cases h5 : tokK L i = 5
  · rw [if_pos h5]
    have := h.num h5
    refine ⟨?_, rfl, rfl, ?_⟩
    · rw [num, mayD]; simp [this.1, this.2]; rfl
    · rw [num, Dat.wee]; exact ⟨small0, by rw [weeL]; trivial⟩
  · rw [if_neg h5]
    by_cases h6 : tokK L i = 6
    · rw [if_pos h6]
      have := h.sym h6
      refine ⟨?_, rfl, rfl, ?_⟩
      · rw [Go.Proofs.Ytnnjhafjcdjobaa.sym, mayD]; simp [this.1]
      · rw [Go.Proofs.Ytnnjhafjcdjobaa.sym, Dat.wee]; exact ⟨this.2, by rw [weeL]; trivial⟩
    · rw [if_neg h6]
      split
      · refine ⟨?_, rfl, rfl, ?_⟩
        · rw [mayD]; simp; rfl
        · rw [Dat.wee]; exact ⟨small0, by rw [weeL]; trivial⟩
      · refine ⟨?_, rfl, rfl, ?_⟩
        · rw [mayD]; simp; rfl
        · rw [Dat.wee]; exact ⟨small0, by rw [weeL]; trivial⟩
def Got (o m : Nat) (d : Dat) (m' : Nat) : Prop := mayD d = true ∧ o + d.deep ≤ 100 ∧ m + d.many ≤ m' ∧ m' ≤ 10000 ∧ d.wee
def GotL (o m0 : Nat) (d : Dat) (m' : Nat) : Prop := d.k = 5 ∧ mayD d = true ∧ o + deepL d.kids ≤ 100 ∧ m0 + manyL d.kids ≤ m' ∧ m' ≤ 10000 ∧ d.wee
theorem weeL_append (l l2 : List Dat) : weeL (l ++ l2) ↔ weeL l ∧ weeL l2 := by
  induction l with
  | nil => simp [weeL]
  | cons d l ih => simp only [List.cons_append, weeL, ih, and_assoc]
theorem may_lst {l : List Dat} {dot : Bool} (h : mayL l = true) (hd : dot = true → 2 ≤ l.length ∧ l.getLast?.map Dat.k ≠ some 5) : mayD (lst l dot) = true := by
  rw [lst, mayD]
  simp only [show ¬ ((5 : Int) = 1) by decide, show ¬ ((5 : Int) = 2) by decide, show ¬ ((5 : Int) = 3 ∨ (5 : Int) = 4) by decide, if_false, ne_eq, not_true_eq_false, ByteArray.size_empty]
  rw [if_neg (by decide), if_neg, h]
  rintro ⟨h1, h2⟩
  have := hd h1
  rcases h2 with h2 | h2
  · omega
  · exact this.2 h2
theorem symQ : symB quoteT = true := by kernel_rfl
theorem got_join {o m0 m1 m' : Nat} {acc : List Dat} {x : Dat} (hacc : mayL acc = true) (hda : o + deepL acc ≤ 100) (hma : m0 + manyL acc ≤ m1) (hwa : weeL acc) (hlen : 0 < acc.length) (h : Got o m1 x m') : GotL o m0 (joinD acc x) m' := by
  obtain ⟨h1, h2, h3, h4, h5⟩ := h
  unfold joinD
  by_cases hk : x.k = 5
  · rw [if_pos hk]
    obtain ⟨k, n, t, l, dot⟩ := x
    simp only [Dat.k] at hk
    subst hk
    simp only [Dat.kids, Dat.dot]
    obtain ⟨-, rfl, rfl, hl, hd⟩ := mayD_list h1 (by decide) (by decide) (by decide) (by decide)
    rw [Dat.deep, if_pos rfl] at h2
    rw [Dat.many] at h3
    rw [Dat.wee] at h5
    refine ⟨rfl, may_lst (by rw [mayL_append, hacc, hl]; rfl) (fun hdt => ?_), ?_, ?_, h4, ?_⟩
    · have := hd hdt
      refine ⟨by rw [List.length_append]; omega, ?_⟩
      rw [List.getLast?_append]
      cases hg : l.getLast? with
      | none => rw [List.getLast?_eq_none_iff] at hg; subst hg; have := this.1; simp at this
      | some y => rw [hg] at this; simpa using this.2
    · show o + deepL (acc ++ l) ≤ 100
      rw [deepL_append]; omega
    · show m0 + manyL (acc ++ l) ≤ m'
      rw [manyL_append]; omega
    · rw [lst, Dat.wee]; exact ⟨small0, (weeL_append _ _).2 ⟨hwa, h5.2⟩⟩
  · rw [if_neg hk]
    refine ⟨rfl, may_lst (by rw [mayL_append, hacc, mayL, mayL, h1]; rfl) (fun hdt => ?_), ?_, ?_, h4, ?_⟩
    · refine ⟨by simp; omega, ?_⟩
      simp; exact hk
    · show o + deepL (acc ++ [x]) ≤ 100
      rw [deepL_append, deepL, deepL]; omega
    · show m0 + manyL (acc ++ [x]) ≤ m'
      rw [manyL_append, manyL, manyL]; omega
    · rw [lst, Dat.wee]; exact ⟨small0, (weeL_append _ _).2 ⟨hwa, by rw [weeL, weeL]; exact ⟨h5, trivial⟩⟩⟩
theorem parse_got (L : List Tok) (hL : GoodT L) : ∀ n,
    (∀ i o m d i' m', o ≤ 100 → pDat L n i o m = .ok d i' m' → Got o m d m') ∧
    (∀ i o m m0 acc d i' m', o ≤ 100 → m ≤ 10000 → mayL acc = true → o + deepL acc ≤ 100 → m0 + manyL acc ≤ m → weeL acc → pList L n i o m acc = .ok d i' m' → GotL o m0 d m') := by
  intro n
  induction n with
  | zero => exact ⟨fun i o m d i' m' _ h => (by rw [pDat] at h; cases h), fun i o m m0 acc d i' m' _ _ _ _ _ _ h => (by rw [pList] at h; cases h)⟩
  | succ n ih =>
    obtain ⟨ihD, ihL⟩ := ih
    refine ⟨fun i o m d i' m' ho h => ?_, fun i o m m0 acc d i' m' ho hm hacc hda hma hwa h => ?_⟩
    · rw [pDat] at h
      by_cases h1 : tokK L i = 1
      · rw [if_pos h1] at h
        by_cases h100 : 100 ≤ o
        · rw [if_pos h100] at h; cases h
        · rw [if_neg h100] at h
          by_cases h10 : 10000 < m + 1
          · rw [if_pos h10] at h; cases h
          · rw [if_neg h10] at h
            obtain ⟨g1, g2, g3, g4, g5, g6⟩ := ihL (i + 1) (o + 1) (m + 1) (m + 1) [] d i' m' (by omega) (by omega) rfl (by simp [deepL]; omega) (by simp [manyL]) (by rw [weeL]; trivial) h
            obtain ⟨k, n', t, l, dot⟩ := d
            simp only [Dat.k, Dat.kids] at g1 g3 g4
            subst g1
            exact ⟨g2, by rw [Dat.deep, if_pos rfl]; omega, by rw [Dat.many]; omega, g5, g6⟩
      · rw [if_neg h1] at h
        by_cases h3 : tokK L i = 3
        · rw [if_pos h3] at h
          by_cases h100 : 100 ≤ o
          · rw [if_pos h100] at h; cases h
          · rw [if_neg h100] at h
            by_cases h10 : 10000 < m + 2
            · rw [if_pos h10] at h; cases h
            · rw [if_neg h10] at h
              cases hr : pDat L n (i + 1) (o + 1) (m + 2) with
              | ok x i2 m2 =>
                rw [hr] at h
                simp only [PR.ok.injEq] at h
                obtain ⟨rfl, rfl, rfl⟩ := h
                obtain ⟨g1, g2, g3, g4, g5⟩ := ihD (i + 1) (o + 1) (m + 2) x i2 m2 (by omega) hr
                refine ⟨may_lst (by rw [mayL, mayL, mayL, g1, Go.Proofs.Ytnnjhafjcdjobaa.sym, mayD]; simp [symQ]) (fun h => by cases h), ?_, ?_, g4, ?_⟩
                · rw [lst, Dat.deep, if_pos rfl, deepL, deepL, deepL, Go.Proofs.Ytnnjhafjcdjobaa.sym, Dat.deep, if_neg (by decide)]; omega
                · rw [lst, Dat.many, manyL, manyL, manyL, Go.Proofs.Ytnnjhafjcdjobaa.sym, Dat.many, manyL]; omega
                · rw [lst, Dat.wee, weeL, weeL, weeL, Go.Proofs.Ytnnjhafjcdjobaa.sym, Dat.wee, weeL]
                  exact ⟨small0, ⟨by unfold Small quoteT; decide, trivial⟩, g5, trivial⟩
              | bad e a => rw [hr] at h; cases h
              | out => rw [hr] at h; cases h
        · rw [if_neg h3] at h
          by_cases h5 : 5 ≤ tokK L i ∧ tokK L i ≤ 8
          · rw [if_pos h5] at h
            by_cases h10 : 10000 < m + 1
            · rw [if_pos h10] at h; cases h
            · rw [if_neg h10] at h
              simp only [PR.ok.injEq] at h
              obtain ⟨rfl, rfl, rfl⟩ := h
              obtain ⟨g1, g2, g3, g4⟩ := leaf_may hL h5
              exact ⟨g1, by omega, by omega, by omega, g4⟩
          · rw [if_neg h5] at h; cases h
    · rw [pList] at h
      by_cases h2 : tokK L i = 2
      · rw [if_pos h2] at h
        simp only [PR.ok.injEq] at h
        obtain ⟨rfl, rfl, rfl⟩ := h
        exact ⟨rfl, may_lst hacc (fun h => by cases h), hda, hma, hm, by rw [lst, Dat.wee]; exact ⟨small0, hwa⟩⟩
      · rw [if_neg h2] at h
        by_cases h4 : 0 < acc.length ∧ tokK L i = 4
        · rw [if_pos h4] at h
          cases hr : pDat L n (i + 1) o m with
          | ok x i2 m2 =>
            rw [hr] at h
            simp only at h
            by_cases hc : tokK L i2 = 2
            · rw [if_pos hc] at h
              simp only [PR.ok.injEq] at h
              obtain ⟨rfl, rfl, rfl⟩ := h
              exact got_join hacc hda hma hwa h4.1 (ihD (i + 1) o m x i2 m2 ho hr)
            · rw [if_neg hc] at h; cases h
          | bad e a => rw [hr] at h; cases h
          | out => rw [hr] at h; cases h
        · rw [if_neg h4] at h
          cases hr : pDat L n i o m with
          | ok x i2 m2 =>
            rw [hr] at h
            simp only at h
            obtain ⟨g1, g2, g3, g4, g5⟩ := ihD i o m x i2 m2 ho hr
            refine ihL i2 o m2 m0 (acc ++ [x]) d i' m' ho g4 (by rw [mayL_append, hacc, mayL, mayL, g1]; rfl) (by rw [deepL_append, deepL, deepL]; omega) (by rw [manyL_append, manyL, manyL]; omega) ((weeL_append _ _).2 ⟨hwa, by rw [weeL, weeL]; exact ⟨g5, trivial⟩⟩) h
          | bad e a => rw [hr] at h; cases h
          | out => rw [hr] at h; cases h
theorem top_got (L : List Tok) (hL : GoodT L) : ∀ n i m acc l i' m', m ≤ 10000 → mayL acc = true → deepL acc ≤ 100 → manyL acc ≤ m → weeL acc → pTop L n i m acc = .ok l i' m' → mayL l = true ∧ deepL l ≤ 100 ∧ manyL l ≤ 10000 ∧ weeL l := by
  intro n
  induction n with
  | zero => intro i m acc l i' m' _ _ _ _ _ h; rw [pTop] at h; cases h
  | succ n ih =>
    intro i m acc l i' m' hm h1 h2 h3 hw h
    rw [pTop] at h
    by_cases h9 : tokK L i = 9
    · rw [if_pos h9] at h
      simp only [PR.ok.injEq] at h
      obtain ⟨rfl, rfl, rfl⟩ := h
      exact ⟨h1, h2, by omega, hw⟩
    · rw [if_neg h9] at h
      cases hr : pDat L n i 0 m with
      | ok x i2 m2 =>
        rw [hr] at h
        simp only at h
        obtain ⟨g1, g2, g3, g4, g5⟩ := (parse_got L hL n).1 i 0 m x i2 m2 (by omega) hr
        exact ih i2 m2 (acc ++ [x]) l i' m' g4 (by rw [mayL_append, h1, mayL, mayL, g1]; rfl) (by rw [deepL_append, deepL, deepL]; omega) (by rw [manyL_append, manyL, manyL]; omega) ((weeL_append _ _).2 ⟨hw, by rw [weeL, weeL]; exact ⟨g5, trivial⟩⟩) h
      | bad e a => rw [hr] at h; cases h
      | out => rw [hr] at h; cases h
theorem readP_got {L : List Tok} (hL : GoodT L) {l : List Dat} {i m : Nat} (h : readP L = .ok l i m) : mayL l = true ∧ deepL l ≤ 100 ∧ manyL l ≤ 10000 ∧ weeL l :=
  top_got L hL _ 0 0 [] l i m (by omega) rfl (by simp [deepL]) (by simp [manyL]) (by rw [weeL]; trivial) h
mutual
theorem hgt_may : ∀ d : Dat, mayD d = true → d.hgt ≤ d.deep + 1
  | .mk k n t l dot => fun h => by
    by_cases h5 : k = 5
    · subst h5
      have := (mayD_list h (by decide) (by decide) (by decide) (by decide)).2.2.2.1
      have := hgtL_may l this
      rw [Dat.hgt, Dat.deep, if_pos rfl]; omega
    · obtain ⟨rfl, _⟩ := mayD_leaf h h5
      rw [Dat.hgt, hgtL]; omega
theorem hgtL_may : ∀ l : List Dat, mayL l = true → hgtL l ≤ deepL l + 1
  | [] => fun _ => by rw [hgtL]; omega
  | d :: l => fun h => by
    rw [mayL, Bool.and_eq_true] at h
    have h1 := hgt_may d h.1
    have h2 := hgtL_may l h.2
    rw [hgtL, deepL]; omega
end
end Go.Proofs.Ytnnjhafjcdjobaa

namespace Go.Proofs.Ytnnjhafjcdjobaa
open Go.RowKit
set_option linter.unusedVariables false
set_option linter.unusedSimpArgs false

def Stop (post : List UInt8) : Prop := post = [] ∨ ∃ c r, post = c :: r ∧ isWI (bI c) = false
def Word (W : ByteArray) : Prop := 0 < W.size ∧ worB W = true ∧ wE W = 0
theorem isWI_head {c : Int} (h : isWI c = true) : c ≠ 40 ∧ c ≠ 41 ∧ c ≠ 39 ∧ isBI c = false ∧ c ≠ 59 := by
  simp [isWI] at h
  simp [isBI]
  omega
theorem Word.at {W : ByteArray} (h : Word W) {j : Nat} (hj : j < W.size) : isWI (at' W j) = true := of_decide_eq_true h.2.1 j hj
theorem Word.reads {W : ByteArray} (h : Word W) : Reads W 0 W.size ⟨wK W, wT W, wN W, 0⟩ := by
  have h0 := isWI_head (h.at h.1)
  refine ⟨h.1, rfl, .inr ⟨h0.1, h0.2.1, h0.2.2.1, h.at h.1, ?_, ?_, ?_, ?_, ?_⟩⟩
  · exact (wordEnd_to W W.size (Nat.le_refl _) (.inl rfl) _ (0 + 1) rfl (by have := h.1; omega) (fun j _ h2 => h.at h2)).symm
  · rw [extract_self]; exact h.2.2
  · rw [extract_self]
  · rw [extract_self]
  · rw [extract_self]
theorem next_word' {T W : ByteArray} {pre post : List UInt8} (hT : T.data.toList = pre ++ W.data.toList ++ post) (hW : Word W) (hp : Stop post) :
    nextOf T pre.length = (⟨wK W, wT W, wN W, pre.length⟩, pre.length + W.size, 0) := by
  have hsz := size_list T _ hT
  have hwl : W.data.toList.length = W.size := (Lib.size_eq W).symm
  simp only [List.length_append, hwl] at hsz
  have hpos := hW.1
  have hat : at' T pre.length = at' W 0 := by
    have := at_list T pre W.data.toList post hT 0 (by omega)
    rw [Nat.add_zero] at this
    rw [this]; rfl
  have h0 := isWI_head (hW.at hpos)
  have hex : T.extract pre.length (pre.length + (W.size - 0)) = W.extract 0 W.size := by
    refine ba_ext ?_
    rw [extract_self, Nat.sub_zero, ← hwl]
    exact extract_list T pre W.data.toList post hT
  unfold nextOf
  rw [skip_stop (by omega) (by rw [hat]; exact h0.2.2.2.1) (by rw [hat]; exact h0.2.2.2.2)]
  have := reads_move W T 0 W.size pre.length _ hW.reads hex (by omega) (by
    rcases hp with rfl | ⟨c, r, rfl, hc⟩
    · right; left; simp at hsz; omega
    · right; right
      have h1 := at_list T (pre ++ W.data.toList) [c] r (by rw [hT]; simp) 0 (by simp)
      simp only [Nat.add_zero, List.getD_cons_zero, List.length_append, hwl] at h1
      rw [Nat.sub_zero, h1]; exact hc)
  rw [this, Nat.sub_zero]; rfl
theorem next_br {T : ByteArray} {pre post : List UInt8} {c : UInt8} {k : Int} (hT : T.data.toList = pre ++ c :: post) (hc : (bI c = 40 ∧ k = 1) ∨ (bI c = 41 ∧ k = 2) ∨ (bI c = 39 ∧ k = 3)) :
    nextOf T pre.length = (⟨k, ⟨#[]⟩, 0, pre.length⟩, pre.length + 1, 0) := by
  have hsz := size_list T _ hT
  simp only [List.length_append, List.length_cons] at hsz
  have hat : at' T pre.length = bI c := by
    have := at_list T pre [c] post (by rw [hT]; simp) 0 (by simp)
    rw [Nat.add_zero] at this
    rw [this]; rfl
  unfold nextOf
  rw [skip_stop (by omega) (by rw [hat]; rcases hc with ⟨e, _⟩ | ⟨e, _⟩ | ⟨e, _⟩ <;> rw [e] <;> decide) (by rw [hat]; omega)]
  unfold tokAt
  rw [if_neg (by omega), hat]
  rcases hc with ⟨e, rfl⟩ | ⟨e, rfl⟩ | ⟨e, rfl⟩ <;> rw [e] <;> simp
/-- Tokens that are read one behind the other. -/
inductive Run (T : ByteArray) : Nat → List TK → Nat → Prop
  | nil (a : Nat) (h : a ≤ T.size) : Run T a [] a
  | gap (a b c : Nat) (zs : List TK) (ha : a ≤ T.size) (hb : b ≤ T.size) (h : nextOf T a = nextOf T b) (hr : Run T b zs c) : Run T a zs c
  | cons (a b c : Nat) (x : Tok) (zs : List TK) (ha : a ≤ T.size) (h : nextOf T a = (x, b, 0)) (hk : x.k ≠ 9) (hr : Run T b zs c) : Run T a (nf x :: zs) c
theorem Run.le {T : ByteArray} {a c : Nat} {zs : List TK} (h : Run T a zs c) : a ≤ T.size ∧ c ≤ T.size := by
  induction h with
  | nil a h => exact ⟨h, h⟩
  | gap a b c zs ha hb h hr ih => exact ⟨ha, ih.2⟩
  | cons a b c x zs ha h hk hr ih => exact ⟨ha, ih.2⟩
theorem Run.trans {T : ByteArray} {a b c : Nat} {xs ys : List TK} (h : Run T a xs b) (h2 : Run T b ys c) : Run T a (xs ++ ys) c := by
  induction h with
  | nil a h => exact h2
  | gap a b c zs ha hb h hr ih => exact .gap a b _ _ ha hb h (ih h2)
  | cons a b c x zs ha h hk hr ih => exact .cons a b _ x _ ha h hk (ih h2)
theorem Run.toks {T : ByteArray} {a b : Nat} {zs : List TK} (h : Run T a zs b) (h0 : (toks T b).2.1 = 0) : (toks T a).2.1 = 0 ∧ (toks T a).1.map nf = zs ++ (toks T b).1.map nf := by
  induction h with
  | nil a h => exact ⟨h0, rfl⟩
  | gap a b c zs ha hb h hr ih =>
    rw [toks_congr T a b h ha hb]
    exact ih h0
  | cons a b c x zs ha h hk hr ih =>
    obtain ⟨i1, i2⟩ := ih h0
    rw [toks_more ha (by rw [h]) (by rw [h]; exact hk), h]
    exact ⟨i1, by simp only [List.map_cons, i2, List.cons_append]⟩
theorem run_gap {T : ByteArray} {pre g post : List UInt8} (hT : T.data.toList = pre ++ g ++ post) (hg : gapRun false g = some false) : Run T pre.length [] (pre.length + g.length) := by
  have hsz := size_list T _ hT
  simp only [List.length_append] at hsz
  refine .gap _ (pre.length + g.length) _ _ (by omega) (by omega) ?_ (.nil _ (by omega))
  unfold nextOf
  rw [gapRun_skip T g false false pre post hT hg]
theorem run_word {T W : ByteArray} {pre post : List UInt8} (hT : T.data.toList = pre ++ W.data.toList ++ post) (hW : Word W) (hp : Stop post) {z : TK} (hz : nf ⟨wK W, wT W, wN W, 0⟩ = z) : Run T pre.length [z] (pre.length + W.size) := by
  have hsz := size_list T _ hT
  have hwl : W.data.toList.length = W.size := (Lib.size_eq W).symm
  simp only [List.length_append, hwl] at hsz
  have := wK_range W hW.2.2
  subst hz
  exact .cons _ _ _ ⟨wK W, wT W, wN W, pre.length⟩ [] (by omega) (next_word' hT hW hp) (by show wK W ≠ 9; omega) (.nil _ (by omega))
theorem run_br {T : ByteArray} {pre post : List UInt8} {c : UInt8} {k : Int} (hT : T.data.toList = pre ++ c :: post) (hc : (bI c = 40 ∧ k = 1) ∨ (bI c = 41 ∧ k = 2) ∨ (bI c = 39 ∧ k = 3)) : Run T pre.length [(k, 0, ⟨#[]⟩)] (pre.length + 1) := by
  have hsz := size_list T _ hT
  simp only [List.length_append, List.length_cons] at hsz
  have : ((k, 0, ⟨#[]⟩) : TK) = nf ⟨k, ⟨#[]⟩, 0, pre.length⟩ := by simp [nf]
  rw [this]
  exact .cons _ _ _ ⟨k, ⟨#[]⟩, 0, pre.length⟩ [] (by omega) (next_br hT hc) (by show k ≠ 9; omega) (.nil _ (by omega))

/-- Symbols and numbers are words. -/
theorem word_sym {t : ByteArray} (h : symB t = true) : Word t ∧ nf ⟨wK t, wT t, wN t, 0⟩ = (6, 0, t) := by
  simp only [symB, Bool.and_eq_true, decide_eq_true_eq, beq_iff_eq] at h
  obtain ⟨⟨⟨h1, h2⟩, h3⟩, h4⟩ := h
  refine ⟨⟨by omega, h2, h3⟩, ?_⟩
  have h5 : cls t = 5 := by
    unfold wK at h4
    rcases cls_lt t with e | e | e | e | e | e <;> simp [e] at h4 ⊢
  simp [nf, h4, wT, h5]
theorem digB_iff (s : ByteArray) : digB s = true ↔ s.size ≠ 0 ∧ ∀ j, j < s.size → isDI (at' s j) = true := by unfold digB; rw [decide_eq_true_eq]
theorem at_app1 (s t : ByteArray) {j : Nat} (h : j < s.size) : at' (s ++ t) j = at' s j := by
  have := at_list (s ++ t) [] s.data.toList t.data.toList (by simp) j (by rw [← Lib.size_eq]; exact h)
  simpa [at', bI] using this
theorem at_app2 (s t : ByteArray) {j : Nat} (h : j < t.size) : at' (s ++ t) (s.size + j) = at' t j := by
  have := at_list (s ++ t) s.data.toList t.data.toList [] (by simp) j (by rw [← Lib.size_eq]; exact h)
  rw [← Lib.size_eq] at this
  simpa [at', bI] using this
theorem pre_app (s t : ByteArray) : ∀ j, j ≤ s.size → pre (s ++ t) j = pre s j := by
  intro j
  induction j with
  | zero => intro _; rfl
  | succ j ih =>
    intro h
    rw [pre, pre, ih (by omega), at_app1 s t (by omega)]
theorem at_dig (k : Nat) (h : k < 10) : at' ⟨#[UInt8.ofNat (48 + k)]⟩ 0 = 48 + k := by
  have : k = 0 ∨ k = 1 ∨ k = 2 ∨ k = 3 ∨ k = 4 ∨ k = 5 ∨ k = 6 ∨ k = 7 ∨ k = 8 ∨ k = 9 := by omega
  rcases this with rfl | rfl | rfl | rfl | rfl | rfl | rfl | rfl | rfl | rfl <;> rfl
theorem isDI_dig (k : Nat) (h : k < 10) : isDI ((48 : Int) + k) = true := by simp [isDI]; omega
theorem natT_dig : ∀ k, digB (natT k) = true ∧ pre (natT k) (natT k).size = k ∧ ∀ j, j ≤ (natT k).size → pre (natT k) j ≤ k := by
  intro k
  induction k using Nat.strongRecOn with
  | ind k ih =>
    by_cases h : k < 10
    · rw [natT_small h]
      have h0 := at_dig k h
      generalize hs : (⟨#[UInt8.ofNat (48 + k)]⟩ : ByteArray) = s at *
      have hsz : s.size = 1 := by rw [← hs]; rfl
      rw [hsz]
      have hp1 : pre s 1 = k := by rw [pre, pre, h0]; omega
      refine ⟨(digB_iff s).2 ⟨by omega, fun j hj => ?_⟩, hp1, fun j hj => ?_⟩
      · have : j = 0 := by omega
        subst this; rw [h0]; exact isDI_dig k h
      · have : j = 0 ∨ j = 1 := by omega
        rcases this with rfl | rfl
        · rw [pre]; omega
        · omega
    · rw [natT_more h]
      obtain ⟨i1, i2, i3⟩ := ih (k / 10) (by omega)
      have h0 := at_dig (k % 10) (by omega)
      generalize natT (k / 10) = s at *
      generalize hs : (⟨#[UInt8.ofNat (48 + k % 10)]⟩ : ByteArray) = t at *
      have hsz : t.size = 1 := by rw [← hs]; rfl
      have hlast : at' (s ++ t) s.size = 48 + (k % 10 : Nat) := by have := at_app2 s t (j := 0) (by omega); rw [Nat.add_zero] at this; rw [this, h0]
      have i1' := (digB_iff s).1 i1
      have hpl : pre (s ++ t) (s.size + 1) = k := by
        rw [pre, pre_app s t _ (Nat.le_refl _), i2, hlast]; omega
      rw [ByteArray.size_append, hsz]
      refine ⟨(digB_iff _).2 ⟨by rw [ByteArray.size_append]; omega, fun j hj => ?_⟩, hpl, fun j hj => ?_⟩
      · rw [ByteArray.size_append, hsz] at hj
        by_cases hj2 : j < s.size
        · rw [at_app1 s t hj2]; exact i1'.2 j hj2
        · have : j = s.size := by omega
          rw [this, hlast]; exact isDI_dig _ (by omega)
      · by_cases hj2 : j ≤ s.size
        · rw [pre_app s t j hj2]; have := i3 j hj2; omega
        · have : j = s.size + 1 := by omega
          rw [this, hpl]; omega
theorem dig_word {c : Int} (h : isDI c = true) : isWI c = true := by simp [isDI] at h; simp [isWI]; omega
theorem list_at0 (s : ByteArray) (c : UInt8) (r : List UInt8) (h : s.data.toList = c :: r) : at' s 0 = bI c := by unfold at' bI; rw [h]; rfl
theorem cls_dig {s : ByteArray} (hd : digB (bare s) = true) (h46 : at' s 0 ≠ 46) (h35 : at' s 0 ≠ 35) : cls s = 3 := by
  unfold cls
  have e1 : (s.toList == [46]) = false := by
    rw [Lib.toList_data, beq_eq_false_iff_ne]
    intro h; exact h46 (list_at0 s 46 [] h)
  have e2 : (s.toList == [35, 116]) = false := by
    rw [Lib.toList_data, beq_eq_false_iff_ne]
    intro h; exact h35 (list_at0 s 35 _ h)
  have e3 : (s.toList == [35, 102]) = false := by
    rw [Lib.toList_data, beq_eq_false_iff_ne]
    intro h; exact h35 (list_at0 s 35 _ h)
  simp [e1, e2, e3, hd]
theorem word_num' {n : Int} (h1 : -576460752303423488 ≤ n) (h2 : n < 576460752303423488) : Word (numT n) ∧ nf ⟨wK (numT n), wT (numT n), wN (numT n), 0⟩ = (5, n, ⟨#[]⟩) := by
  obtain ⟨d1, d2, d3⟩ := natT_dig n.natAbs
  have d1' := (digB_iff _).1 d1
  have hok : okN (natT n.natAbs) := fun j hj => by have := d3 j hj; omega
  by_cases hn : n < 0
  · have he : numT n = ⟨#[45]⟩ ++ natT n.natAbs := by rw [numT, if_pos hn]
    have hs1 : (⟨#[45]⟩ : ByteArray).size = 1 := rfl
    have h0 : at' (numT n) 0 = 45 := by rw [he, at_app1 _ _ (by omega)]; rfl
    have hsz : (numT n).size = 1 + (natT n.natAbs).size := by rw [he, ByteArray.size_append, hs1]
    have hb : bare (numT n) = natT n.natAbs := by
      rw [bare, if_pos ⟨by omega, h0⟩]
      refine ba_ext ?_
      have := extract_list (numT n) [45] (natT n.natAbs).data.toList [] (by rw [he]; simp)
      rw [← this, hsz, Lib.size_eq]
      rfl
    have hneg : isNeg (numT n) = true := by rw [isNeg]; exact decide_eq_true ⟨by omega, h0⟩
    have hc : cls (numT n) = 3 := cls_dig (by rw [hb]; exact d1) (by omega) (by omega)
    have hE : numE (natT n.natAbs) true = 0 := by rw [numE, if_pos hok, if_pos rfl]
    refine ⟨⟨by omega, ?_, ?_⟩, ?_⟩
    · rw [worB, decide_eq_true_eq]
      intro j hj
      cases j with
      | zero => rw [h0]; decide
      | succ j =>
        rw [he, show j + 1 = (⟨#[45]⟩ : ByteArray).size + j by omega, at_app2 _ _ (by omega)]
        exact dig_word (d1'.2 j (by omega))
    · rw [wE, if_pos hc, hb, hneg]; exact hE
    · simp only [nf, wK, wT, wN, hc, hb, hneg, numV, hE, d2]
      simp; omega
  · have he : numT n = natT n.natAbs := by rw [numT, if_neg hn]
    rw [he]
    have h0 := of_decide_eq_true (d1'.2 0 (by omega))
    have hnm : ¬ ((natT n.natAbs).size ≠ 0 ∧ at' (natT n.natAbs) 0 = 45) := fun h => by have := h.2; omega
    have hb : bare (natT n.natAbs) = natT n.natAbs := by rw [bare, if_neg hnm]
    have hneg : isNeg (natT n.natAbs) = false := by rw [isNeg]; exact decide_eq_false hnm
    have hc : cls (natT n.natAbs) = 3 := cls_dig (by rw [hb]; exact d1) (by omega) (by omega)
    have hE : numE (natT n.natAbs) false = 0 := by rw [numE, if_pos hok, if_neg (by decide), if_pos (by rw [d2]; omega)]
    refine ⟨⟨by omega, ?_, ?_⟩, ?_⟩
    · rw [worB, decide_eq_true_eq]
      intro j hj
      exact dig_word (d1'.2 j hj)
    · rw [wE, if_pos hc, hb, hneg]; exact hE
    · simp only [nf, wK, wT, wN, hc, hb, hneg, numV, hE, d2]
      simp; omega
theorem word_f : Word ⟨#[35, 102]⟩ ∧ nf ⟨wK ⟨#[35, 102]⟩, wT ⟨#[35, 102]⟩, wN ⟨#[35, 102]⟩, 0⟩ = (7, 0, ⟨#[]⟩) := ⟨⟨by decide, by kernel_rfl, by kernel_rfl⟩, by kernel_rfl⟩
theorem word_t : Word ⟨#[35, 116]⟩ ∧ nf ⟨wK ⟨#[35, 116]⟩, wT ⟨#[35, 116]⟩, wN ⟨#[35, 116]⟩, 0⟩ = (8, 0, ⟨#[]⟩) := ⟨⟨by decide, by kernel_rfl, by kernel_rfl⟩, by kernel_rfl⟩
theorem word_d : Word ⟨#[46]⟩ ∧ nf ⟨wK ⟨#[46]⟩, wT ⟨#[46]⟩, wN ⟨#[46]⟩, 0⟩ = (4, 0, ⟨#[]⟩) := ⟨⟨by decide, by kernel_rfl, by kernel_rfl⟩, by kernel_rfl⟩

/-- The bytes of texts, one behind the other, a byte between. -/
def glueB (sep : UInt8) : List (List UInt8) → Bool → Bool → List UInt8
  | [], _, _ => []
  | x :: r, fst, dot => (if fst = true then [] else [sep]) ++ (if dot = true ∧ r = [] then [46, 32] else []) ++ x ++ glueB sep r false dot
theorem glueB_head {sep : UInt8} (r : List (List UInt8)) (dot : Bool) : glueB sep r false dot = [] ∨ ∃ q, glueB sep r false dot = sep :: q := by
  cases r with
  | nil => exact .inl rfl
  | cons x r => exact .inr ⟨_, rfl⟩
def RUNS (d : Dat) : Prop := mayD d = true → ∀ (T : ByteArray) (pre post : List UInt8), T.data.toList = pre ++ (txtD d).data.toList ++ post → Stop post → Run T pre.length (tkD d) (pre.length + (txtD d).size)
theorem list_run (sep : UInt8) (hsep : isBI (bI sep) = true) (T : ByteArray) (dot : Bool) : ∀ (r : List Dat), (∀ d ∈ r, RUNS d) → mayL r = true → ∀ (fst : Bool) (pre post : List UInt8), T.data.toList = pre ++ glueB sep (r.map fun d => (txtD d).data.toList) fst dot ++ post → Stop post →
    Run T pre.length (glue (r.map tkD) dot) (pre.length + (glueB sep (r.map fun d => (txtD d).data.toList) fst dot).length) := by
  have hsw : isWI (bI sep) = false := by
    generalize bI sep = c at *
    simp [isBI] at hsep
    simp [isWI]; omega
  have hgs : gapRun false [sep] = some false := by simp [gapRun, hsep]
  have hg32 : gapRun false [32] = some false := by decide
  intro r
  induction r with
  | nil =>
    intro _ _ fst pre post hT hp
    have hsz := size_list T _ hT
    simp only [List.length_append] at hsz
    simp only [List.map_nil, glueB, glue, List.length_nil, Nat.add_zero]
    exact .nil _ (by omega)
  | cons x r ih =>
    intro hr hm fst pre post hT hp
    rw [mayL, Bool.and_eq_true] at hm
    have ih2 := ih (fun d hd => hr d (List.mem_cons_of_mem _ hd)) hm.2
    have hx := hr x (by simp) hm.1
    simp only [List.map_cons, glueB, glue_cons] at hT ⊢
    have hxl : (txtD x).data.toList.length = (txtD x).size := (Lib.size_eq _).symm
    -- the separator
    have step1 : Run T pre.length [] (pre.length + (if fst = true then [] else [sep]).length) := by
      cases fst with
      | true =>
        have hsz := size_list T _ hT
        simp only [List.length_append] at hsz
        exact .nil _ (by omega)
      | false => exact run_gap (T := T) (pre := pre) (g := [sep]) (post := (if dot = true ∧ (r.map fun d => (txtD d).data.toList) = [] then [46, 32] else []) ++ (txtD x).data.toList ++ glueB sep (r.map fun d => (txtD d).data.toList) false dot ++ post) (by rw [hT]; simp only [Bool.false_eq_true, if_false, List.append_assoc]) hgs
    generalize (if fst = true then [] else [sep]) = g at *
    have hre : ((r.map fun d => (txtD d).data.toList) = []) ↔ (r.map tkD = []) := by simp
    have step2 : Run T (pre.length + g.length) (if dot = true ∧ (r.map tkD) = [] then [((4 : Int), (0 : Int), (⟨#[]⟩ : ByteArray))] else []) ((pre ++ g).length + (if dot = true ∧ (r.map fun d => (txtD d).data.toList) = [] then [46, 32] else ([] : List UInt8)).length) := by
      rw [← List.length_append]
      by_cases hd : dot = true ∧ r.map tkD = []
      · have hd2 : dot = true ∧ (r.map fun d => (txtD d).data.toList) = [] := ⟨hd.1, hre.2 hd.2⟩
        rw [if_pos hd2] at hT
        rw [if_pos hd, if_pos hd2]
        have h1 := run_word (T := T) (W := ⟨#[46]⟩) (pre := pre ++ g) (post := 32 :: ((txtD x).data.toList ++ glueB sep (r.map fun d => (txtD d).data.toList) false dot ++ post)) (by rw [hT]; simp) word_d.1 (.inr ⟨_, _, rfl, by decide⟩) word_d.2
        have h2 := run_gap (T := T) (pre := pre ++ g ++ [46]) (g := [32]) (post := (txtD x).data.toList ++ glueB sep (r.map fun d => (txtD d).data.toList) false dot ++ post) (by rw [hT]; simp) hg32
        have e1 : (pre ++ g ++ [46]).length = (pre ++ g).length + (⟨#[46]⟩ : ByteArray).size := by rw [List.length_append]; rfl
        rw [e1] at h2
        have e2 : (pre ++ g).length + (⟨#[46]⟩ : ByteArray).size + [(32 : UInt8)].length = (pre ++ g).length + [(46 : UInt8), 32].length := rfl
        rw [e2] at h2
        exact h1.trans h2
      · have hd2 : ¬ (dot = true ∧ (r.map fun d => (txtD d).data.toList) = []) := fun h => hd ⟨h.1, hre.1 h.2⟩
        rw [if_neg hd, if_neg hd2]
        have hsz := size_list T _ hT
        simp only [List.length_append] at hsz
        simp only [List.length_append, List.length_nil, Nat.add_zero]; exact .nil _ (by omega)
    generalize (if dot = true ∧ (r.map fun d => (txtD d).data.toList) = [] then [46, 32] else ([] : List UInt8)) = g2 at *
    have step3 := hx T (pre ++ g ++ g2) (glueB sep (r.map fun d => (txtD d).data.toList) false dot ++ post) (by rw [hT]; simp) (by
      rcases glueB_head (sep := sep) (r.map fun d => (txtD d).data.toList) dot with e | ⟨q, e⟩
      · rw [e]; exact hp
      · rw [e]; exact .inr ⟨_, _, rfl, hsw⟩)
    have step4 := ih2 false (pre ++ g ++ g2 ++ (txtD x).data.toList) post (by rw [hT]; simp) hp
    have e3 : (pre ++ g ++ g2).length = (pre ++ g).length + g2.length := List.length_append
    have e4 : (pre ++ g ++ g2 ++ (txtD x).data.toList).length = (pre ++ g).length + g2.length + (txtD x).size := by rw [List.length_append, e3, hxl]
    rw [e3] at step3
    rw [e4] at step4
    have := ((step1.trans step2).trans step3).trans step4
    have e5 : pre.length + (g ++ g2 ++ (txtD x).data.toList ++ glueB sep (r.map fun d => (txtD d).data.toList) false dot).length = (pre ++ g).length + g2.length + (txtD x).size + (glueB sep (r.map fun d => (txtD d).data.toList) false dot).length := by
      simp only [List.length_append, hxl]; omega
    rw [e5]
    exact this
theorem preT_glue (ts : List ByteArray) (dot : Bool) : ∀ n j, ts.length - j = n → j ≤ ts.length → (preT ts ts.length dot ts.length).data.toList = (preT ts ts.length dot j).data.toList ++ glueB 32 ((ts.drop j).map fun t => t.data.toList) (decide (j = 0)) dot := by
  intro n
  induction n with
  | zero =>
    intro j h hj
    have : j = ts.length := by omega
    subst this
    rw [List.drop_length]; simp [glueB]
  | succ n ih =>
    intro j h hj
    have hjl : j < ts.length := by omega
    rw [ih (j + 1) (by omega) (by omega), preT, List.drop_eq_getElem_cons hjl, List.map_cons, glueB]
    have e1 : ts.getD j ⟨#[]⟩ = ts[j] := by rw [List.getD_eq_getElem?_getD, List.getElem?_eq_getElem hjl]; rfl
    have e2 : ((ts.drop (j + 1)).map fun t => t.data.toList) = [] ↔ j + 1 = ts.length := by
      rw [List.map_eq_nil_iff, List.drop_eq_nil_iff]; omega
    have e3 : decide (j + 1 = 0) = false := by simp
    have e5 : (piece ts.length dot j ts[j]).data.toList = (if 0 < j then [32] else []) ++ (if dot = true ∧ j + 1 = ts.length then [46, 32] else []) ++ ts[j].data.toList := by
      unfold piece
      split <;> split <;> simp
    have e6 : (if decide (j = 0) = true then [] else [(32 : UInt8)]) = if 0 < j then [32] else [] := by
      by_cases hj0 : 0 < j
      · rw [if_pos hj0, if_neg (by simp; omega)]
      · rw [if_neg hj0, if_pos (by simp; omega)]
    have e7 : (if dot = true ∧ ((ts.drop (j + 1)).map fun t => t.data.toList) = [] then [(46 : UInt8), 32] else []) = if dot = true ∧ j + 1 = ts.length then [46, 32] else [] := by
      simp only [e2]
    rw [e1, e3, e6, e7, ByteArray.data_append, Array.toList_append, e5]
    simp only [List.append_assoc]
theorem preT_all (l : List Dat) (dot : Bool) : (preT (l.map txtD) l.length dot l.length).data.toList = glueB 32 (l.map fun d => (txtD d).data.toList) true dot := by
  have := preT_glue (l.map txtD) dot _ 0 rfl (Nat.zero_le _)
  rw [List.length_map] at this
  rw [this]
  simp [preT, Function.comp_def]
theorem text_run : ∀ d, RUNS d := by
  intro d
  induction d using Dat.ind with
  | h k n t l dot ih =>
    intro hmay T pre post hT hp
    by_cases h5 : k = 5
    · subst h5
      obtain ⟨-, rfl, rfl, hl, hd⟩ := mayD_list hmay (by decide) (by decide) (by decide) (by decide)
      by_cases hq : isQ l dot = true
      · obtain ⟨a, b, rfl, rfl, hak, hat⟩ := isQ_inv hq
        rw [txt_quote 0 ⟨#[]⟩ a b hak hat] at hT ⊢
        rw [tkD, if_neg (by decide), if_neg (by decide), if_neg (by decide), if_neg (by decide), if_pos hq, tkL_map]
        have h1 := run_br (T := T) (pre := pre) (c := 39) (k := 3) (post := (txtD b).data.toList ++ post) (by rw [hT]; simp) (.inr (.inr ⟨rfl, rfl⟩))
        have h2 := ih b (by simp) (mayL_mem hl b (by simp)) T (pre ++ [39]) post (by rw [hT]; simp) hp
        have e1 : (pre ++ [39]).length = pre.length + 1 := by simp
        rw [e1] at h2
        rw [ByteArray.size_append, ← Nat.add_assoc]
        exact h1.trans h2
      · have hq' : isQ l dot = false := by simpa using hq
        rw [txt_list 0 ⟨#[]⟩ l dot hq'] at hT ⊢
        rw [tkD, if_neg (by decide), if_neg (by decide), if_neg (by decide), if_neg (by decide), if_neg hq, tkL_map]
        have hg := preT_all l dot
        have hgs : (preT (l.map txtD) l.length dot l.length).size = (glueB 32 (l.map fun d => (txtD d).data.toList) true dot).length := by rw [Lib.size_eq, hg]
        have hT2 : T.data.toList = pre ++ 40 :: (glueB 32 (l.map fun d => (txtD d).data.toList) true dot ++ 41 :: post) := by rw [hT]; simp [hg]
        have h1 := run_br (T := T) (pre := pre) (c := 40) (k := 1) (post := glueB 32 (l.map fun d => (txtD d).data.toList) true dot ++ 41 :: post) hT2 (.inl ⟨rfl, rfl⟩)
        have h2 := list_run 32 (by decide) T dot l ih hl true (pre ++ [40]) (41 :: post) (by rw [hT2]; simp) (.inr ⟨_, _, rfl, by decide⟩)
        have h3 := run_br (T := T) (pre := pre ++ [40] ++ glueB 32 (l.map fun d => (txtD d).data.toList) true dot) (c := 41) (k := 2) (post := post) (by rw [hT2]; simp) (.inr (.inl ⟨rfl, rfl⟩))
        generalize glueB 32 (l.map fun d => (txtD d).data.toList) true dot = gb at *
        have e1 : (pre ++ [40]).length = pre.length + 1 := by simp
        have e2 : (pre ++ [40] ++ gb).length = pre.length + 1 + gb.length := by rw [List.length_append, e1]
        rw [e1] at h2
        rw [e2] at h3
        have e3 : pre.length + ((⟨#[40]⟩ : ByteArray) ++ preT (l.map txtD) l.length dot l.length ++ ⟨#[41]⟩).size = pre.length + 1 + gb.length + 1 := by
          rw [ByteArray.size_append, ByteArray.size_append, hgs]
          show pre.length + (1 + gb.length + 1) = _
          omega
        rw [e3]
        exact (h1.trans h2).trans h3
    · obtain ⟨rfl, rfl, hk4, hk1, hn0, hk2, hk34⟩ := mayD_leaf hmay h5
      rcases hk4 with rfl | rfl | rfl | rfl
      · obtain ⟨rfl, hn1, hn2⟩ := hk1 rfl
        rw [tkD, if_pos rfl]
        rw [txtD, if_pos rfl] at hT ⊢
        obtain ⟨w1, w2⟩ := word_num' hn1 hn2
        exact run_word hT w1 hp w2
      · have := hn0 (by decide)
        subst this
        rw [tkD, if_neg (by decide), if_pos rfl]
        rw [txtD, if_neg (by decide), if_pos rfl] at hT ⊢
        obtain ⟨w1, w2⟩ := word_sym (hk2 rfl)
        exact run_word hT w1 hp w2
      · rw [tkD, if_neg (by decide), if_neg (by decide), if_pos rfl]
        rw [txtD, if_neg (by decide), if_neg (by decide), if_pos rfl] at hT ⊢
        exact run_word hT word_f.1 hp word_f.2
      · rw [tkD, if_neg (by decide), if_neg (by decide), if_neg (by decide), if_pos rfl]
        rw [txtD, if_neg (by decide), if_neg (by decide), if_neg (by decide), if_pos rfl] at hT ⊢
        exact run_word hT word_t.1 hp word_t.2
end Go.Proofs.Ytnnjhafjcdjobaa

namespace Go.Proofs.Ytnnjhafjcdjobaa
open Go.RowKit
set_option linter.unusedVariables false
set_option linter.unusedSimpArgs false

/-- The text of the first j data, line ends between. -/
def preW (ts : List ByteArray) : Nat → ByteArray
  | 0 => ⟨#[]⟩
  | j + 1 => preW ts j ++ (if 0 < j then ⟨#[10]⟩ else ⟨#[]⟩) ++ ts.getD j ⟨#[]⟩
def textW (l : List Dat) : ByteArray := preW (l.map txtD) l.length
def writeE (l : List Dat) : Int := if mayL l = false then 60 else if 100 < deepL l then 61 else if 10000 < manyL l then 62 else if 65536 < (textW l).size then 2 else 0
def writeT (l : List Dat) : ByteArray := if writeE l = 0 then textW l else ⟨#[]⟩
theorem preW_glue (ts : List ByteArray) : ∀ n j, ts.length - j = n → j ≤ ts.length → (preW ts ts.length).data.toList = (preW ts j).data.toList ++ glueB 10 ((ts.drop j).map fun t => t.data.toList) (decide (j = 0)) false := by
  intro n
  induction n with
  | zero =>
    intro j h hj
    have : j = ts.length := by omega
    subst this
    rw [List.drop_length]; simp [glueB]
  | succ n ih =>
    intro j h hj
    have hjl : j < ts.length := by omega
    rw [ih (j + 1) (by omega) (by omega), preW, List.drop_eq_getElem_cons hjl, List.map_cons, glueB]
    have e1 : ts.getD j ⟨#[]⟩ = ts[j] := by rw [List.getD_eq_getElem?_getD, List.getElem?_eq_getElem hjl]; rfl
    rw [e1]
    have e3 : decide (j + 1 = 0) = false := by simp
    rw [e3]
    by_cases hj0 : 0 < j
    · have e4 : decide (j = 0) = false := by simp; omega
      rw [e4, if_pos hj0]; simp
    · have e4 : decide (j = 0) = true := by simp; omega
      rw [e4, if_neg hj0]; simp
theorem textW_glue (l : List Dat) : (textW l).data.toList = glueB 10 (l.map fun d => (txtD d).data.toList) true false := by
  have := preW_glue (l.map txtD) _ 0 rfl (Nat.zero_le _)
  rw [List.length_map] at this
  rw [textW, this]
  simp [preW, Function.comp_def]
theorem glue_flat (l : List Dat) : glue (l.map tkD) false = l.flatMap tkD := by
  induction l with
  | nil => rfl
  | cons d l ih => rw [List.map_cons, glue_cons, List.flatMap_cons, ih]; simp
/-- The tokens of a text that was written. -/
theorem textW_run {l : List Dat} (hl : mayL l = true) {T : ByteArray} {pre post : List UInt8} (hT : T.data.toList = pre ++ (textW l).data.toList ++ post) (hp : Stop post) : Run T pre.length (l.flatMap tkD) (pre.length + (textW l).size) := by
  rw [textW_glue] at hT
  have := list_run 10 (by decide) T false l (fun d _ => text_run d) hl true pre post hT hp
  rw [glue_flat, ← textW_glue, ← Lib.size_eq] at this
  exact this
theorem toks_at_end (T : ByteArray) : toks T T.size = ([⟨9, ⟨#[]⟩, 0, T.size⟩], 0, 0) := by
  have hn : nextOf T T.size = (⟨9, ⟨#[]⟩, 0, T.size⟩, T.size, 0) := by
    unfold nextOf
    rw [skipG_end _ _ _ (Nat.le_refl _)]
    unfold tokAt
    rw [if_pos (Nat.le_refl _)]
  rw [toks_end (by rw [hn]) (by rw [hn]), hn]
theorem run_all {T : ByteArray} {zs : List TK} (h : Run T 0 zs T.size) : (toks T 0).2.1 = 0 ∧ (toks T 0).1.map nf = zs ++ [(9, 0, ⟨#[]⟩)] := by
  have := h.toks (by rw [toks_at_end])
  rw [toks_at_end] at this
  exact this
theorem lies_all {L : List Tok} {xs : List TK} (h : L.map nf = xs) : Lies L 0 xs := by
  intro j z hz
  rw [Nat.zero_add, ← List.getElem?_map, h]; exact hz
theorem tokErr_of {T : ByteArray} (h1 : T.size ≤ 65536) (h2 : (toks T 0).2.1 = 0) : ¬ tokErr T := by
  rintro (h | h)
  · have := of_decide_eq_true h; omega
  · exact h h2
/-- What reading such tokens comes to. -/
def OutR (r : PR (List Dat)) (v : List Dat) : Prop := (∃ i m, r = .ok v i m) ∨ ∃ i a, r = .bad i a ∧ (i = 61 ∨ i = 62)
theorem written_back {l : List Dat} (h : writeE l = 0) : ¬ tokErr (textW l) ∧ ∃ i m, readP (toks (textW l) 0).1 = .ok l i m := by
  unfold writeE at h
  by_cases h1 : mayL l = false
  · rw [if_pos h1] at h; cases h
  · rw [if_neg h1] at h
    by_cases h2 : 100 < deepL l
    · rw [if_pos h2] at h; cases h
    · rw [if_neg h2] at h
      by_cases h3 : 10000 < manyL l
      · rw [if_pos h3] at h; cases h
      · rw [if_neg h3] at h
        by_cases h4 : 65536 < (textW l).size
        · rw [if_pos h4] at h; cases h
        · have hm : mayL l = true := by simpa using h1
          have hr := textW_run hm (T := textW l) (pre := []) (post := []) (by simp) (.inl rfl)
          rw [List.length_nil, Nat.zero_add] at hr
          obtain ⟨t1, t2⟩ := run_all hr
          refine ⟨tokErr_of (by omega) t1, ?_⟩
          have hlen := congrArg List.length t2
          simp only [List.length_map, List.length_append, List.length_singleton] at hlen
          rcases parse_top _ l hm (2 * (toks (textW l) 0).1.length + 1) 0 0 [] (lies_all t2) (by omega) (by omega) with ⟨_, hr⟩ | ⟨hc, _⟩
          · exact ⟨_, _, hr⟩
          · exact absurd ⟨by omega, by omega⟩ hc
theorem items_parse (L : List Tok) : ∀ (r : List Dat), mayL r = true → ∀ (n i o m : Nat) (acc : List Dat), Lies L i (r.flatMap tkD) → 2 * (r.flatMap tkD).length + 1 ≤ n → o ≤ 100 → m ≤ 10000 →
    (∃ n' m', n ≤ n' + (r.flatMap tkD).length ∧ m' ≤ 10000 ∧ pList L n i o m acc = pList L n' (i + (r.flatMap tkD).length) o m' (acc ++ r)) ∨ ∃ e a, pList L n i o m acc = .bad e a ∧ (e = 61 ∨ e = 62) := by
  intro r
  induction r with
  | nil => intro _ n i o m acc _ _ _ hm; exact .inl ⟨n, m, by simp, hm, by simp⟩
  | cons x r ih =>
    intro hmay n i o m acc hL hn ho hm
    rw [mayL, Bool.and_eq_true] at hmay
    have hpos := tkD_pos x
    obtain ⟨kx, nx, tx, rx, hxe, hxk⟩ := tkD_head x
    simp only [List.flatMap_cons, List.length_append] at hL hn ⊢
    obtain ⟨n, rfl⟩ : ∃ k, n = k + 1 := ⟨n - 1, by omega⟩
    have hx := hL.left
    have hxk2 : tokK L i = kx := by rw [hxe] at hx; exact hx.head.1
    rw [pList, if_neg (by omega), if_neg (by omega)]
    rcases parse_dat x hmay.1 L n i o m hx (by omega) ho hm with ⟨hc, hr⟩ | ⟨hc, e, a, hr, he⟩
    · rw [hr]
      simp only
      rcases ih hmay.2 n (i + (tkD x).length) o (m + x.many) (acc ++ [x]) hL.right (by omega) ho (by omega) with ⟨n', m', h1, h2, h3⟩ | ⟨e, a, h1, h2⟩
      · exact .inl ⟨n', m', by omega, h2, by rw [h3, List.append_assoc, List.singleton_append, Nat.add_assoc]⟩
      · exact .inr ⟨e, a, h1, h2⟩
    · exact .inr ⟨e, a, by rw [hr], he⟩
/-- A list whose tokens are these: opened, data, then the rest. -/
theorem bad_top {L : List Tok} {n i m : Nat} {acc : List Dat} {e : Int} {a : Nat} (h9 : tokK L i ≠ 9) (h : pDat L n i 0 m = .bad e a) : pTop L (n + 1) i m acc = .bad e a := by
  rw [pTop, if_neg h9, h]
theorem ok_top {L : List Tok} {n i m i' m' : Nat} {acc : List Dat} {d : Dat} (h9 : tokK L i ≠ 9) (h : pDat L (n + 1) i 0 m = .ok d i' m') (he : tokK L i' = 9) : pTop L (n + 1 + 1) i m acc = .ok (acc ++ [d]) i' m' := by
  rw [pTop, if_neg h9, h]
  simp only
  rw [pTop, if_pos he]
section
variable (l m : List Dat) (hl : mayL l = true) (hm : mayL m = true)
include hl hm
def tails2 (l m : List Dat) : List TK := (1, 0, ⟨#[]⟩) :: (l.flatMap tkD ++ (m.flatMap tkD ++ [(2, 0, ⟨#[]⟩), (9, 0, ⟨#[]⟩)]))
def tails1 (l m : List Dat) : List TK := (1, 0, ⟨#[]⟩) :: (l.flatMap tkD ++ ((4, 0, ⟨#[]⟩) :: (1, 0, ⟨#[]⟩) :: (m.flatMap tkD ++ [(2, 0, ⟨#[]⟩), (2, 0, ⟨#[]⟩), (9, 0, ⟨#[]⟩)])))
theorem parse_tails2 (L : List Tok) (h : L.map nf = tails2 l m) : OutR (readP L) [lst (l ++ m) false] := by
  have hlen := congrArg List.length h
  simp only [tails2, List.length_map, List.length_append, List.length_cons, List.length_nil] at hlen
  have hL := lies_all h
  unfold tails2 at hL
  have h1 := hL.head.1
  have h2 := hL.tail.left
  have h3 := hL.tail.right.left
  have h4 := hL.tail.right.right
  have h5 := h4.head.1
  have h6 := h4.tail.head.1
  unfold readP
  obtain ⟨n, hn⟩ : ∃ n, 2 * L.length + 1 = n + 1 + 1 + 1 := ⟨2 * L.length - 2, by omega⟩
  rw [hn]
  have hd : pDat L (n + 1 + 1) 0 0 0 = pList L (n + 1) 1 1 1 [] := by rw [pDat, if_pos h1, if_neg (by omega), if_neg (by omega)]
  rcases items_parse L l hl (n + 1) 1 1 1 [] h2 (by omega) (by omega) (by omega) with ⟨n1, m1, a1, a2, a3⟩ | ⟨e, a, a1, a2⟩
  · rcases items_parse L m hm n1 (1 + (l.flatMap tkD).length) 1 m1 ([] ++ l) h3 (by omega) (by omega) a2 with ⟨n2, m2, b1, b2, b3⟩ | ⟨e, a, b1, b2⟩
    · obtain ⟨n2, rfl⟩ : ∃ k, n2 = k + 1 := ⟨n2 - 1, by omega⟩
      rw [a3, b3, pList, if_pos h5] at hd
      exact .inl ⟨_, _, ok_top (by omega) hd h6⟩
    · exact .inr ⟨e, a, bad_top (by omega) (hd.trans (a3.trans b1)), b2⟩
  · exact .inr ⟨e, a, bad_top (by omega) (hd.trans a1), a2⟩
theorem parse_tails1 (L : List Tok) (h : L.map nf = tails1 l m) (hne : l ≠ []) : OutR (readP L) [lst (l ++ m) false] := by
  have hlen := congrArg List.length h
  simp only [tails1, List.length_map, List.length_append, List.length_cons, List.length_nil] at hlen
  have hL := lies_all h
  unfold tails1 at hL
  have hlp : 0 < l.length := List.length_pos_iff.2 hne
  have h1 := hL.head.1
  have h2 := hL.tail.left
  have h3 := hL.tail.right
  have k4 := h3.head.1
  have k1 := h3.tail.head.1
  have h4 := h3.tail.tail.left
  have h5 := h3.tail.tail.right
  have c1 := h5.head.1
  have c2 := h5.tail.head.1
  have c9 := h5.tail.tail.head.1
  simp only [Nat.zero_add] at h2 h3 k4 k1 h4 h5 c1 c2 c9
  unfold readP
  obtain ⟨n, hn⟩ : ∃ n, 2 * L.length + 1 = n + 1 + 1 + 1 := ⟨2 * L.length - 2, by omega⟩
  rw [hn]
  have hd : pDat L (n + 1 + 1) 0 0 0 = pList L (n + 1) 1 1 1 [] := by rw [pDat, if_pos h1, if_neg (by omega), if_neg (by omega)]
  rcases items_parse L l hl (n + 1) 1 1 1 [] h2 (by omega) (by omega) (by omega) with ⟨n1, m1, a1, a2, a3⟩ | ⟨e, a, a1, a2⟩
  · obtain ⟨n1, rfl⟩ : ∃ k, n1 = k + 1 + 1 := ⟨n1 - 2, by omega⟩
    have hd2 : pList L (n1 + 1 + 1) (1 + (l.flatMap tkD).length) 1 m1 ([] ++ l) = match pDat L (n1 + 1) (1 + (l.flatMap tkD).length + 1) 1 m1 with
        | .ok x i' m' => if tokK L i' = 2 then .ok (joinD ([] ++ l) x) (i' + 1) m' else .bad 60 (tokA L i')
        | .bad e a => .bad e a
        | .out => .out := by
      rw [pList, if_neg (by omega), if_pos ⟨by simpa using hlp, k4⟩]
      rfl
    have hd3 : pDat L (n1 + 1) (1 + (l.flatMap tkD).length + 1) 1 m1 = if 10000 < m1 + 1 then .bad 62 (tokA L (1 + (l.flatMap tkD).length + 1)) else pList L n1 (1 + (l.flatMap tkD).length + 1 + 1) 2 (m1 + 1) [] := by
      rw [pDat, if_pos k1, if_neg (by omega)]
    by_cases hc : 10000 < m1 + 1
    · rw [if_pos hc] at hd3
      rw [hd3] at hd2
      exact .inr ⟨_, _, bad_top (by omega) (hd.trans (a3.trans hd2)), .inr rfl⟩
    · rw [if_neg hc] at hd3
      rcases items_parse L m hm n1 (1 + (l.flatMap tkD).length + 1 + 1) 2 (m1 + 1) [] h4 (by omega) (by omega) (by omega) with ⟨n2, m2, b1, b2, b3⟩ | ⟨e, a, b1, b2⟩
      · obtain ⟨n2, rfl⟩ : ∃ k, n2 = k + 1 := ⟨n2 - 1, by omega⟩
        rw [b3, pList, if_pos c1] at hd3
        rw [hd3] at hd2
        simp only [c2, if_true] at hd2
        have hj : joinD ([] ++ l) (lst ([] ++ m) false) = lst (l ++ m) false := by
          rw [joinD, if_pos (show (lst ([] ++ m) false).k = 5 from rfl)]; rfl
        rw [hj] at hd2
        exact .inl ⟨_, _, ok_top (by omega) (hd.trans (a3.trans hd2)) c9⟩
      · rw [b1] at hd3
        rw [hd3] at hd2
        exact .inr ⟨_, _, bad_top (by omega) (hd.trans (a3.trans hd2)), b2⟩
  · exact .inr ⟨e, a, bad_top (by omega) (hd.trans a1), a2⟩
theorem toks_tails2 {T : ByteArray} (hT : T.data.toList = 40 :: ((textW l).data.toList ++ 10 :: ((textW m).data.toList ++ [41]))) : (toks T 0).2.1 = 0 ∧ (toks T 0).1.map nf = tails2 l m := by
  have hsz := size_list T _ hT
  simp only [List.length_append, List.length_cons, List.length_nil, ← Lib.size_eq] at hsz
  have s1 := run_br (T := T) (pre := []) (c := 40) (k := 1) (post := (textW l).data.toList ++ 10 :: ((textW m).data.toList ++ [41])) (by rw [hT]; rfl) (.inl ⟨rfl, rfl⟩)
  have s2 := textW_run hl (T := T) (pre := [40]) (post := 10 :: ((textW m).data.toList ++ [41])) (by rw [hT]; simp) (.inr ⟨_, _, rfl, by decide⟩)
  have s3 := run_gap (T := T) (pre := 40 :: (textW l).data.toList) (g := [10]) (post := (textW m).data.toList ++ [41]) (by rw [hT]; simp) (by decide)
  have s4 := textW_run hm (T := T) (pre := 40 :: ((textW l).data.toList ++ [10])) (post := [41]) (by rw [hT]; simp) (.inr ⟨_, _, rfl, by decide⟩)
  have s5 := run_br (T := T) (pre := 40 :: ((textW l).data.toList ++ 10 :: (textW m).data.toList)) (c := 41) (k := 2) (post := []) (by rw [hT]; simp) (.inr (.inl ⟨rfl, rfl⟩))
  simp only [List.length_append, List.length_cons, List.length_nil, ← Lib.size_eq] at s1 s2 s3 s4 s5
  have e1 : 0 + 1 + (textW l).size = (textW l).size + 1 := by omega
  have e2 : (textW l).size + 1 + (0 + 1) = (textW l).size + (0 + 1) + 1 := by omega
  have e3 : (textW l).size + (0 + 1) + 1 + (textW m).size = (textW l).size + ((textW m).size + 1) + 1 := by omega
  have e4 : (textW l).size + ((textW m).size + 1) + 1 + 1 = T.size := by omega
  rw [e1] at s2
  rw [e2] at s3
  rw [e3] at s4
  rw [e4] at s5
  have := run_all ((((s1.trans s2).trans s3).trans s4).trans s5)
  refine ⟨this.1, this.2.trans ?_⟩
  simp [tails2]
theorem toks_tails1 {T : ByteArray} (hT : T.data.toList = 40 :: ((textW l).data.toList ++ [32, 46, 32, 40] ++ ((textW m).data.toList ++ [41, 41]))) : (toks T 0).2.1 = 0 ∧ (toks T 0).1.map nf = tails1 l m := by
  have hsz := size_list T _ hT
  simp only [List.length_append, List.length_cons, List.length_nil, ← Lib.size_eq] at hsz
  have s1 := run_br (T := T) (pre := []) (c := 40) (k := 1) (post := (textW l).data.toList ++ [32, 46, 32, 40] ++ ((textW m).data.toList ++ [41, 41])) (by rw [hT]; rfl) (.inl ⟨rfl, rfl⟩)
  have s2 := textW_run hl (T := T) (pre := [40]) (post := [32, 46, 32, 40] ++ ((textW m).data.toList ++ [41, 41])) (by rw [hT]; simp) (.inr ⟨_, _, rfl, by decide⟩)
  have s3 := run_gap (T := T) (pre := 40 :: (textW l).data.toList) (g := [32]) (post := 46 :: 32 :: 40 :: ((textW m).data.toList ++ [41, 41])) (by rw [hT]; simp) (by decide)
  have s4 := run_word (T := T) (W := ⟨#[46]⟩) (pre := 40 :: ((textW l).data.toList ++ [32])) (post := 32 :: 40 :: ((textW m).data.toList ++ [41, 41])) (by rw [hT]; simp) word_d.1 (.inr ⟨_, _, rfl, by decide⟩) word_d.2
  have s5 := run_gap (T := T) (pre := 40 :: ((textW l).data.toList ++ [32, 46])) (g := [32]) (post := 40 :: ((textW m).data.toList ++ [41, 41])) (by rw [hT]; simp) (by decide)
  have s6 := run_br (T := T) (pre := 40 :: ((textW l).data.toList ++ [32, 46, 32])) (c := 40) (k := 1) (post := (textW m).data.toList ++ [41, 41]) (by rw [hT]; simp) (.inl ⟨rfl, rfl⟩)
  have s7 := textW_run hm (T := T) (pre := 40 :: ((textW l).data.toList ++ [32, 46, 32, 40])) (post := [41, 41]) (by rw [hT]; simp) (.inr ⟨_, _, rfl, by decide⟩)
  have s8 := run_br (T := T) (pre := 40 :: ((textW l).data.toList ++ [32, 46, 32, 40] ++ (textW m).data.toList)) (c := 41) (k := 2) (post := [41]) (by rw [hT]; simp) (.inr (.inl ⟨rfl, rfl⟩))
  have s9 := run_br (T := T) (pre := 40 :: ((textW l).data.toList ++ [32, 46, 32, 40] ++ (textW m).data.toList ++ [41])) (c := 41) (k := 2) (post := []) (by rw [hT]; simp) (.inr (.inl ⟨rfl, rfl⟩))
  have hw : (⟨#[46]⟩ : ByteArray).size = 1 := rfl
  simp only [List.length_append, List.length_cons, List.length_nil, ← Lib.size_eq, hw] at s1 s2 s3 s4 s5 s6 s7 s8 s9
  have t1 : Run T 0 ([(1, 0, ⟨#[]⟩)] ++ l.flatMap tkD) ((textW l).size + 1) := by
    have := s1.trans s2
    rwa [show 0 + 1 + (textW l).size = (textW l).size + 1 by omega] at this
  have t2 := t1.trans s3
  rw [show (textW l).size + 1 + (0 + 1) = (textW l).size + (0 + 1) + 1 by omega] at t2
  have t3 := t2.trans s4
  rw [show (textW l).size + (0 + 1) + 1 + 1 = (textW l).size + (0 + 1 + 1) + 1 by omega] at t3
  have t4 := t3.trans s5
  rw [show (textW l).size + (0 + 1 + 1) + 1 + (0 + 1) = (textW l).size + (0 + 1 + 1 + 1) + 1 by omega] at t4
  have t5 := t4.trans s6
  rw [show (textW l).size + (0 + 1 + 1 + 1) + 1 + 1 = (textW l).size + (0 + 1 + 1 + 1 + 1) + 1 by omega] at t5
  have t6 := t5.trans s7
  rw [show (textW l).size + (0 + 1 + 1 + 1 + 1) + 1 + (textW m).size = (textW l).size + (0 + 1 + 1 + 1 + 1) + (textW m).size + 1 by omega] at t6
  have t7 := t6.trans s8
  rw [show (textW l).size + (0 + 1 + 1 + 1 + 1) + (textW m).size + 1 + 1 = (textW l).size + (0 + 1 + 1 + 1 + 1) + (textW m).size + (0 + 1) + 1 by omega] at t7
  have t8 := t7.trans s9
  rw [show (textW l).size + (0 + 1 + 1 + 1 + 1) + (textW m).size + (0 + 1) + 1 + 1 = T.size by omega] at t8
  have := run_all t8
  refine ⟨this.1, this.2.trans ?_⟩
  simp [tails1]
end
/-- A quote ahead of a text. -/
theorem quoted_back {x : Dat} {l : List Dat} (hl : mayL (x :: l) = true) {T : ByteArray} (hT : T.data.toList = 39 :: (textW (x :: l)).data.toList) : (toks T 0).2.1 = 0 ∧ OutR (readP (toks T 0).1) (lst [sym quoteT, x] false :: l) := by
  have hsz := size_list T _ hT
  simp only [List.length_cons, ← Lib.size_eq] at hsz
  have s1 := run_br (T := T) (pre := []) (c := 39) (k := 3) (post := (textW (x :: l)).data.toList) (by rw [hT]; rfl) (.inr (.inr ⟨rfl, rfl⟩))
  have s2 := textW_run hl (T := T) (pre := [39]) (post := []) (by rw [hT]; simp) (.inl rfl)
  simp only [List.length_cons, List.length_nil] at s1 s2
  rw [show 0 + 1 + (textW (x :: l)).size = T.size by omega] at s2
  obtain ⟨r1, r2⟩ := run_all (s1.trans s2)
  refine ⟨r1, ?_⟩
  generalize (toks T 0).1 = L at *
  rw [List.flatMap_cons] at r2
  have hlen := congrArg List.length r2
  simp only [List.length_map, List.length_append, List.length_cons, List.length_nil] at hlen
  have hL := lies_all r2
  simp only [List.singleton_append, List.cons_append, List.append_assoc, List.nil_append] at hL
  have h3 := hL.head.1
  have hx := hL.tail.left
  have hr := hL.tail.right
  rw [mayL, Bool.and_eq_true] at hl
  unfold readP
  obtain ⟨n, hn⟩ : ∃ n, 2 * L.length + 1 = n + 1 + 1 := ⟨2 * L.length - 1, by omega⟩
  rw [hn]
  have hd : pDat L (n + 1) 0 0 0 = match pDat L n 1 1 2 with
        | .ok d i' m' => .ok (lst [sym quoteT, d] false) i' m'
        | .bad e a => .bad e a
        | .out => .out := by
    rw [pDat, if_neg (by omega), if_pos h3, if_neg (by omega), if_neg (by omega)]
    rfl
  rcases parse_dat x hl.1 L n 1 1 2 hx (by omega) (by omega) (by omega) with ⟨hc, hr1⟩ | ⟨hc, e, a, hr1, he⟩
  · rw [hr1] at hd
    simp only at hd
    have ht : pTop L (n + 1 + 1) 0 0 [] = pTop L (n + 1) (1 + (tkD x).length) (2 + x.many) ([] ++ [lst [sym quoteT, x] false]) := by
      rw [pTop, if_neg (by omega), hd]
    rw [ht]
    rcases parse_top L l hl.2 (n + 1) (1 + (tkD x).length) (2 + x.many) ([] ++ [lst [sym quoteT, x] false]) (by rw [show 0 + 1 + (tkD x).length = 1 + (tkD x).length by omega] at hr; exact hr) (by omega) (by omega) with ⟨_, hr2⟩ | ⟨_, e, a, hr2, he⟩
    · exact .inl ⟨_, _, hr2⟩
    · exact .inr ⟨e, a, hr2, he⟩
  · rw [hr1] at hd
    exact .inr ⟨e, a, bad_top (by omega) hd, he⟩
/-- The tokens of a text are good. -/
theorem numV_range {r : ByteArray} {m : Bool} (hd : digB r = true) (h : numE r m = 0) : -576460752303423488 ≤ numV r m ∧ numV r m < 576460752303423488 := by
  have h0 := pre_nonneg r hd r.size (Nat.le_refl _)
  rw [numV, if_pos h]
  unfold numE at h
  by_cases hok : okN r
  · rw [if_pos hok] at h
    have h1 := hok r.size (Nat.le_refl _)
    generalize pre r r.size = p at *
    clear hok hd
    cases m with
    | true => rw [if_pos rfl]; omega
    | false =>
      rw [if_neg (by decide)] at h ⊢
      by_cases hp : p < 576460752303423488
      · omega
      · rw [if_neg hp] at h; omega
  · rw [if_neg hok] at h; omega
theorem cls3 {s : ByteArray} (h : cls s = 3) : digB (bare s) = true := by
  unfold cls at h
  by_cases h1 : (s.toList == [46]) = true
  · rw [if_pos h1] at h; omega
  · rw [if_neg h1] at h
    by_cases h2 : (s.toList == [35, 116]) = true
    · rw [if_pos h2] at h; omega
    · rw [if_neg h2] at h
      by_cases h3 : (s.toList == [35, 102]) = true
      · rw [if_pos h3] at h; omega
      · rw [if_neg h3] at h
        by_cases h4 : digB (bare s) = true
        · exact h4
        · rw [if_neg h4] at h
          by_cases h5 : badB s = true
          · rw [if_pos h5] at h; omega
          · rw [if_neg h5] at h; omega
theorem toks_goodT (s : ByteArray) (hs : Small s) (h0 : (toks s 0).2.1 = 0) : GoodT (toks s 0).1 := by
  intro x hx
  obtain ⟨i, hi⟩ := List.getElem?_of_mem hx
  by_cases h9 : x.k = 9
  · exact ⟨fun h => by omega, fun h => by omega⟩
  · obtain ⟨p, y, hr, _⟩ := toks_reads s h0 i x hi h9
    refine ⟨fun h5 => ?_, fun h6 => ?_⟩
    · obtain ⟨_, _, ⟨h3, _⟩ | ⟨_, _, _, _, _, he, hk, _, hn⟩⟩ := hr
      · omega
      · rw [hk] at h5
        have hc : cls (s.extract x.a p) = 3 := by
          unfold wK at h5
          rcases cls_lt (s.extract x.a p) with e | e | e | e | e | e <;> simp [e] at h5 ⊢
        rw [wE, if_pos hc] at he
        rw [hn, wN, if_pos hc]
        exact numV_range (cls3 hc) he
    · obtain ⟨h1, h2⟩ := reads_sym s x.a p x hr
      rw [h2 h6, h1, h6]
      exact ⟨rfl, hs.extract _ _⟩
theorem read_got {s : ByteArray} (hs : Small s) (h : ¬ tokErr s) {l : List Dat} {i m : Nat} (hr : readP (toks s 0).1 = .ok l i m) : mayL l = true ∧ deepL l ≤ 100 ∧ manyL l ≤ 10000 ∧ weeL l :=
  readP_got (toks_goodT s hs (tokErr_not h).2) hr
theorem read_writes {s : ByteArray} (hs : Small s) (h : ¬ tokErr s) {l : List Dat} {i m : Nat} (hr : readP (toks s 0).1 = .ok l i m) : writeE l = 2 ∨ writeE l = 0 := by
  obtain ⟨h1, h2, h3, _⟩ := read_got hs h hr
  unfold writeE
  rw [if_neg (by simp [h1]), if_neg (by omega), if_neg (by omega)]
  split
  · exact .inl rfl
  · exact .inr rfl
end Go.Proofs.Ytnnjhafjcdjobaa
