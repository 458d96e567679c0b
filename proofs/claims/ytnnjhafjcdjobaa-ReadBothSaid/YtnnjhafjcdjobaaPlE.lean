/- Read: two texts with a line end between, in plain Lean. -/
import Derived.Test.YtnnjhafjcdjobaaPlA
namespace Go.Proofs.Ytnnjhafjcdjobaa
open Go.RowKit
set_option linter.unusedVariables false
set_option linter.unusedSimpArgs false

/-- The same tokens up to a place. -/
def Agree (L L' : List Tok) (k : Nat) : Prop := ∀ i, i < k → L'[i]? = L[i]?
theorem Agree.K {L L' : List Tok} {k i : Nat} (h : Agree L L' k) (hi : i < k) : tokK L' i = tokK L i ∧ tokA L' i = tokA L i ∧ tokN L' i = tokN L i ∧ tokT L' i = tokT L i := by
  unfold tokK tokA tokN tokT
  rw [h i hi]
  exact ⟨rfl, rfl, rfl, rfl⟩
theorem Agree.leaf {L L' : List Tok} {k i : Nat} (h : Agree L L' k) (hi : i < k) : leafD L' i = leafD L i := by
  unfold leafD
  rw [(h.K hi).1, (h.K hi).2.2.1, (h.K hi).2.2.2]
/-- Reading goes wrong at the end, or it is the same reading. -/
def Same9 {α : Type} (L : List Tok) (k : Nat) (r r' : PR α) : Prop := r = .out ∨ (∃ e, r = .bad e (tokA L k)) ∨ (r' = r ∧ ∀ d i' m', r = .ok d i' m' → i' ≤ k)
theorem prefix_parse (L L' : List Tok) (k : Nat) (h : Agree L L' k) (h9 : tokK L k = 9) : ∀ n,
    (∀ n' i o m, n ≤ n' → i ≤ k → Same9 L k (pDat L n i o m) (pDat L' n' i o m)) ∧
    (∀ n' i o m acc, n ≤ n' → i ≤ k → Same9 L k (pList L n i o m acc) (pList L' n' i o m acc)) := by
  intro n
  induction n with
  | zero => exact ⟨fun n' i o m _ _ => .inl (by rw [pDat]), fun n' i o m acc _ _ => .inl (by rw [pList])⟩
  | succ n ih =>
    obtain ⟨ihD, ihL⟩ := ih
    refine ⟨fun n' i o m hn hi => ?_, fun n' i o m acc hn hi => ?_⟩
    · obtain ⟨n', rfl⟩ : ∃ q, n' = q + 1 := ⟨n' - 1, by omega⟩
      by_cases hik : i = k
      · subst hik
        rw [pDat, if_neg (by omega), if_neg (by omega), if_neg (by omega)]
        exact .inr (.inl ⟨_, rfl⟩)
      · have hik2 : i < k := by omega
        obtain ⟨e1, e2, e3, e4⟩ := h.K hik2
        rw [pDat, pDat, e1, e2]
        by_cases h1 : tokK L i = 1
        · rw [if_pos h1, if_pos h1]
          by_cases h100 : 100 ≤ o
          · rw [if_pos h100, if_pos h100]; exact .inr (.inr ⟨rfl, fun d i' m' h => by cases h⟩)
          · rw [if_neg h100, if_neg h100]
            by_cases h10 : 10000 < m + 1
            · rw [if_pos h10, if_pos h10]; exact .inr (.inr ⟨rfl, fun d i' m' h => by cases h⟩)
            · rw [if_neg h10, if_neg h10]
              exact ihL n' (i + 1) (o + 1) (m + 1) [] (by omega) (by omega)
        · rw [if_neg h1, if_neg h1]
          by_cases h3 : tokK L i = 3
          · rw [if_pos h3, if_pos h3]
            by_cases h100 : 100 ≤ o
            · rw [if_pos h100, if_pos h100]; exact .inr (.inr ⟨rfl, fun d i' m' h => by cases h⟩)
            · rw [if_neg h100, if_neg h100]
              by_cases h10 : 10000 < m + 2
              · rw [if_pos h10, if_pos h10]; exact .inr (.inr ⟨rfl, fun d i' m' h => by cases h⟩)
              · rw [if_neg h10, if_neg h10]
                rcases ihD n' (i + 1) (o + 1) (m + 2) (by omega) (by omega) with hr | ⟨e, hr⟩ | ⟨hr, hr2⟩
                · rw [hr]; exact .inl rfl
                · rw [hr]; exact .inr (.inl ⟨e, rfl⟩)
                · rw [hr]
                  refine .inr (.inr ⟨rfl, ?_⟩)
                  cases hx : pDat L n (i + 1) (o + 1) (m + 2) with
                  | ok d j m2 => intro d' i' m' hh; simp only [PR.ok.injEq] at hh; obtain ⟨rfl, rfl, rfl⟩ := hh; exact hr2 _ _ _ hx
                  | bad e a => intro d' i' m' hh; cases hh
                  | out => intro d' i' m' hh; cases hh
          · rw [if_neg h3, if_neg h3, h.leaf hik2]
            by_cases h5 : 5 ≤ tokK L i ∧ tokK L i ≤ 8
            · rw [if_pos h5]
              by_cases h10 : 10000 < m + 1
              · rw [if_pos h10]; exact .inr (.inr ⟨rfl, fun d i' m' h => by cases h⟩)
              · rw [if_neg h10]
                refine .inr (.inr ⟨rfl, fun d i' m' h => ?_⟩)
                simp only [PR.ok.injEq] at h
                omega
            · rw [if_neg h5]; exact .inr (.inr ⟨rfl, fun d i' m' h => by cases h⟩)
    · obtain ⟨n', rfl⟩ : ∃ q, n' = q + 1 := ⟨n' - 1, by omega⟩
      have step : (∀ r', pDat L' n' i o m = r' → pList L' (n' + 1) i o m acc = (match r' with
          | .ok x i' m' => pList L' n' i' o m' (acc ++ [x])
          | .bad e a => .bad e a
          | .out => .out)) → Same9 L k (match pDat L n i o m with
          | .ok x i' m' => pList L n i' o m' (acc ++ [x])
          | .bad e a => .bad e a
          | .out => .out) (pList L' (n' + 1) i o m acc) := by
        intro hL'
        rcases ihD n' i o m (by omega) hi with hr | ⟨e, hr⟩ | ⟨hr, hr2⟩
        · rw [hr]; exact .inl rfl
        · rw [hr]; exact .inr (.inl ⟨e, rfl⟩)
        · rw [hL' _ hr]
          cases hx : pDat L n i o m with
          | ok d j m2 =>
            simp only
            exact ihL n' j o m2 (acc ++ [d]) (by omega) (hr2 _ _ _ hx)
          | bad e a => exact .inr (.inr ⟨rfl, fun d i' m' h => by cases h⟩)
          | out => exact .inl rfl
      by_cases hik : i = k
      · subst hik
        rw [pList, if_neg (by omega), if_neg (by omega)]
        have hb : pDat L n i o m = .out ∨ ∃ e, pDat L n i o m = .bad e (tokA L i) := by
          cases n with
          | zero => exact .inl (by rw [pDat])
          | succ n =>
            rw [pDat, if_neg (by omega), if_neg (by omega), if_neg (by omega)]
            exact .inr ⟨_, rfl⟩
        rcases hb with hr | ⟨e, hr⟩
        · rw [hr]; exact .inl rfl
        · rw [hr]; exact .inr (.inl ⟨e, rfl⟩)
      · have hik2 : i < k := by omega
        obtain ⟨e1, e2, e3, e4⟩ := h.K hik2
        rw [pList]
        by_cases h2 : tokK L i = 2
        · rw [if_pos h2, pList, e1, if_pos h2]
          refine .inr (.inr ⟨rfl, fun d i' m' h => ?_⟩)
          simp only [PR.ok.injEq] at h
          omega
        · rw [if_neg h2]
          by_cases h4 : 0 < acc.length ∧ tokK L i = 4
          · rw [if_pos h4, pList, e1, if_neg h2, if_pos h4]
            rcases ihD n' (i + 1) o m (by omega) (by omega) with hr | ⟨e, hr⟩ | ⟨hr, hr2⟩
            · rw [hr]; exact .inl rfl
            · rw [hr]; exact .inr (.inl ⟨e, rfl⟩)
            · rw [hr]
              cases hx : pDat L n (i + 1) o m with
              | ok d j m2 =>
                simp only
                have hj := hr2 _ _ _ hx
                by_cases hjk : j = k
                · subst hjk
                  rw [if_neg (by omega)]
                  exact .inr (.inl ⟨_, rfl⟩)
                · obtain ⟨f1, f2, -⟩ := h.K (show j < k by omega)
                  rw [f1, f2]
                  refine .inr (.inr ⟨rfl, fun d' i' m' hh => ?_⟩)
                  by_cases hc : tokK L j = 2
                  · rw [if_pos hc] at hh; simp only [PR.ok.injEq] at hh; omega
                  · rw [if_neg hc] at hh; cases hh
              | bad e a => exact .inr (.inr ⟨rfl, fun d i' m' h => by cases h⟩)
              | out => exact .inl rfl
          · rw [if_neg h4]
            refine step fun r' hr' => ?_
            rw [pList, e1, if_neg h2, if_neg h4, hr']
            cases r' <;> rfl
theorem adv_parse (L : List Tok) : ∀ n,
    (∀ i o m d i' m', pDat L n i o m = .ok d i' m' → i < i') ∧ (∀ i o m acc d i' m', pList L n i o m acc = .ok d i' m' → i < i') := by
  intro n
  induction n with
  | zero => exact ⟨fun i o m d i' m' h => (by rw [pDat] at h; cases h), fun i o m acc d i' m' h => (by rw [pList] at h; cases h)⟩
  | succ n ih =>
    obtain ⟨ihD, ihL⟩ := ih
    refine ⟨fun i o m d i' m' hr => ?_, fun i o m acc d i' m' hr => ?_⟩
    · rw [pDat] at hr
      split at hr
      · split at hr
        · cases hr
        · split at hr
          · cases hr
          · have := ihL _ _ _ _ _ _ _ hr; omega
      · split at hr
        · split at hr
          · cases hr
          · split at hr
            · cases hr
            · split at hr
              · rename_i hx; simp only [PR.ok.injEq] at hr; have := ihD _ _ _ _ _ _ hx; omega
              · cases hr
              · cases hr
        · split at hr
          · split at hr
            · cases hr
            · simp only [PR.ok.injEq] at hr; omega
          · cases hr
    · rw [pList] at hr
      split at hr
      · simp only [PR.ok.injEq] at hr; omega
      · split at hr
        · split at hr
          · rename_i hx
            have := ihD _ _ _ _ _ _ hx
            split at hr
            · simp only [PR.ok.injEq] at hr; omega
            · cases hr
          · cases hr
          · cases hr
        · split at hr
          · rename_i hx
            have := ihD _ _ _ _ _ _ hx
            have := ihL _ _ _ _ _ _ _ hr
            omega
          · cases hr
          · cases hr
/-- The whole of the first tokens, then the rest. -/
theorem prefix_top (L L' : List Tok) (k : Nat) (h : Agree L L' k) (h9 : tokK L k = 9) : ∀ n n' i m acc, n ≤ n' → i ≤ k →
    pTop L n i m acc = .out ∨ (∃ e, pTop L n i m acc = .bad e (tokA L k)) ∨ (∃ e a, pTop L n i m acc = .bad e a ∧ pTop L' n' i m acc = .bad e a) ∨
      (∃ acc' m' n'' i', pTop L n i m acc = .ok acc' i' m' ∧ n' + i ≤ n'' + i' ∧ (i' = k ∨ i' < k ∧ tokK L i' = 9) ∧ pTop L' n' i m acc = pTop L' n'' i' m' acc') := by
  intro n
  induction n with
  | zero => intro n' i m acc _ _; exact .inl (by rw [pTop])
  | succ n ih =>
    intro n' i m acc hn hi
    obtain ⟨n', rfl⟩ : ∃ q, n' = q + 1 := ⟨n' - 1, by omega⟩
    rw [pTop]
    by_cases hk : tokK L i = 9
    · rw [if_pos hk]
      exact .inr (.inr (.inr ⟨acc, m, n' + 1, i, rfl, by omega, by omega, rfl⟩))
    · rw [if_neg hk]
      have hik : i < k := by
        rcases Nat.lt_or_ge i k with h1 | h1
        · exact h1
        · have : i = k := by omega
          rw [this] at hk; exact absurd h9 hk
      have e1 := (h.K hik).1
      have ht : pTop L' (n' + 1) i m acc = (match pDat L' n' i 0 m with
          | .ok x i' m' => pTop L' n' i' m' (acc ++ [x])
          | .bad e a => .bad e a
          | .out => .out) := by rw [pTop, e1, if_neg hk]; rfl
      rcases (prefix_parse L L' k h h9 n).1 n' i 0 m (by omega) hi with hr | ⟨e, hr⟩ | ⟨hr, hr2⟩
      · rw [hr]; exact .inl rfl
      · rw [hr]; exact .inr (.inl ⟨e, rfl⟩)
      · rw [hr] at ht
        cases hx : pDat L n i 0 m with
        | ok d j m2 =>
          rw [hx] at ht
          simp only at ht ⊢
          rw [ht]
          have hadv := (adv_parse L n).1 _ _ _ _ _ _ hx
          rcases ih n' j m2 (acc ++ [d]) (by omega) (hr2 _ _ _ hx) with h1 | h1 | h1 | ⟨acc', m', n'', i', h1, h2, h3, h4⟩
          · exact .inl h1
          · exact .inr (.inl h1)
          · exact .inr (.inr (.inl h1))
          · exact .inr (.inr (.inr ⟨acc', m', n'', i', h1, by omega, h3, h4⟩))
        | bad e a =>
          rw [hx] at ht
          exact .inr (.inr (.inl ⟨e, a, rfl, ht⟩))
        | out => exact .inl rfl

/-- Tokens that stand elsewhere. -/
def Shift (L L' : List Tok) (k : Nat) : Prop := ∀ i, i < L.length → ∃ x y, L[i]? = some x ∧ L'[k + i]? = some y ∧ nf y = nf x
theorem Shift.K {L L' : List Tok} {k i : Nat} (h : Shift L L' k) (hi : i < L.length) : tokK L' (k + i) = tokK L i ∧ leafD L' (k + i) = leafD L i := by
  obtain ⟨x, y, h1, h2, h3⟩ := h i hi
  simp only [nf, Prod.mk.injEq] at h3
  obtain ⟨a, b, c⟩ := h3
  have hk : tokK L' (k + i) = tokK L i := by unfold tokK; rw [h1, h2]; exact a
  refine ⟨hk, ?_⟩
  unfold leafD
  rw [hk]
  by_cases h5 : tokK L i = 5
  · rw [if_pos h5, if_pos h5]
    have e1 : x.k = 5 := by unfold tokK at h5; rw [h1] at h5; exact h5
    rw [if_pos e1, if_pos (by rw [a]; exact e1)] at b
    unfold tokN; rw [h1, h2]; simp only; rw [b]
  · rw [if_neg h5, if_neg h5]
    by_cases h6 : tokK L i = 6
    · rw [if_pos h6, if_pos h6]
      have e1 : x.k = 6 := by unfold tokK at h6; rw [h1] at h6; exact h6
      rw [if_pos e1, if_pos (by rw [a]; exact e1)] at c
      unfold tokT; rw [h1, h2]; simp only; rw [c]
    · rw [if_neg h6, if_neg h6]
theorem ok_parse (L : List Tok) (hE : EndL L) : ∀ n,
    (∀ i o m d i' m', i < L.length → pDat L n i o m = .ok d i' m' → m ≤ m' ∧ i' < L.length) ∧
    (∀ i o m acc d i' m', i < L.length → pList L n i o m acc = .ok d i' m' → m ≤ m' ∧ i' < L.length) := by
  intro n
  induction n with
  | zero => exact ⟨fun i o m d i' m' _ h => (by rw [pDat] at h; cases h), fun i o m acc d i' m' _ h => (by rw [pList] at h; cases h)⟩
  | succ n ih =>
    obtain ⟨ihD, ihL⟩ := ih
    refine ⟨fun i o m d i' m' hi hr => ?_, fun i o m acc d i' m' hi hr => ?_⟩
    · rw [pDat] at hr
      by_cases h1 : tokK L i = 1
      · rw [if_pos h1] at hr
        have hi1 := hE.lt hi (by omega)
        by_cases h100 : 100 ≤ o
        · rw [if_pos h100] at hr; cases hr
        · rw [if_neg h100] at hr
          by_cases h10 : 10000 < m + 1
          · rw [if_pos h10] at hr; cases hr
          · rw [if_neg h10] at hr
            have := ihL _ _ _ _ _ _ _ hi1 hr
            exact ⟨by omega, this.2⟩
      · rw [if_neg h1] at hr
        by_cases h3 : tokK L i = 3
        · rw [if_pos h3] at hr
          have hi1 := hE.lt hi (by omega)
          by_cases h100 : 100 ≤ o
          · rw [if_pos h100] at hr; cases hr
          · rw [if_neg h100] at hr
            by_cases h10 : 10000 < m + 2
            · rw [if_pos h10] at hr; cases hr
            · rw [if_neg h10] at hr
              cases hx : pDat L n (i + 1) (o + 1) (m + 2) with
              | ok x j m2 =>
                rw [hx] at hr
                simp only [PR.ok.injEq] at hr
                obtain ⟨rfl, rfl, rfl⟩ := hr
                have := ihD _ _ _ _ _ _ hi1 hx
                exact ⟨by omega, this.2⟩
              | bad e a => rw [hx] at hr; cases hr
              | out => rw [hx] at hr; cases hr
        · rw [if_neg h3] at hr
          by_cases h5 : 5 ≤ tokK L i ∧ tokK L i ≤ 8
          · rw [if_pos h5] at hr
            have hi1 := hE.lt hi (by omega)
            by_cases h10 : 10000 < m + 1
            · rw [if_pos h10] at hr; cases hr
            · rw [if_neg h10] at hr
              simp only [PR.ok.injEq] at hr
              obtain ⟨rfl, rfl, rfl⟩ := hr
              exact ⟨by omega, hi1⟩
          · rw [if_neg h5] at hr; cases hr
    · rw [pList] at hr
      by_cases h2 : tokK L i = 2
      · rw [if_pos h2] at hr
        have hi1 := hE.lt hi (by omega)
        simp only [PR.ok.injEq] at hr
        obtain ⟨rfl, rfl, rfl⟩ := hr
        exact ⟨Nat.le_refl _, hi1⟩
      · rw [if_neg h2] at hr
        by_cases h4 : 0 < acc.length ∧ tokK L i = 4
        · rw [if_pos h4] at hr
          have hi1 := hE.lt hi (by omega)
          cases hx : pDat L n (i + 1) o m with
          | ok x j m2 =>
            rw [hx] at hr
            simp only at hr
            have h5 := ihD _ _ _ _ _ _ hi1 hx
            by_cases hc : tokK L j = 2
            · rw [if_pos hc] at hr
              simp only [PR.ok.injEq] at hr
              obtain ⟨rfl, rfl, rfl⟩ := hr
              exact ⟨h5.1, hE.lt h5.2 (by omega)⟩
            · rw [if_neg hc] at hr; cases hr
          | bad e a => rw [hx] at hr; cases hr
          | out => rw [hx] at hr; cases hr
        · rw [if_neg h4] at hr
          cases hx : pDat L n i o m with
          | ok x j m2 =>
            rw [hx] at hr
            simp only at hr
            have h5 := ihD _ _ _ _ _ _ hi hx
            have h6 := ihL _ _ _ _ _ _ _ h5.2 hr
            exact ⟨by omega, h6.2⟩
          | bad e a => rw [hx] at hr; cases hr
          | out => rw [hx] at hr; cases hr
theorem dat_mono (L : List Tok) (hE : EndL L) (n i o m : Nat) (d : Dat) (i' m' : Nat) (hi : i < L.length) (h : pDat L n i o m = .ok d i' m') : m ≤ m' := ((ok_parse L hE n).1 i o m d i' m' hi h).1
theorem list_mono (L : List Tok) (hE : EndL L) (n i o m : Nat) (acc : List Dat) (d : Dat) (i' m' : Nat) (hi : i < L.length) (h : pList L n i o m acc = .ok d i' m') : m ≤ m' := ((ok_parse L hE n).2 i o m acc d i' m' hi h).1
theorem pdat_lt (L : List Tok) (hE : EndL L) (n i o m : Nat) (d : Dat) (i' m' : Nat) (hi : i < L.length) (h : pDat L n i o m = .ok d i' m') : i' < L.length := ((ok_parse L hE n).1 i o m d i' m' hi h).2
theorem top_mono (L : List Tok) (hE : EndL L) : ∀ n i m acc l i' m', i < L.length → pTop L n i m acc = .ok l i' m' → m ≤ m' := by
  intro n
  induction n with
  | zero => intro i m acc l i' m' _ h; rw [pTop] at h; cases h
  | succ n ih =>
    intro i m acc l i' m' hi h
    rw [pTop] at h
    by_cases hk : tokK L i = 9
    · rw [if_pos hk] at h
      simp only [PR.ok.injEq] at h
      omega
    · rw [if_neg hk] at h
      cases hx : pDat L n i 0 m with
      | ok x j m2 =>
        rw [hx] at h
        simp only at h
        have h5 := (ok_parse L hE n).1 _ _ _ _ _ _ hi hx
        have := ih _ _ _ _ _ _ h5.2 h
        omega
      | bad e a => rw [hx] at h; cases h
      | out => rw [hx] at h; cases h
/-- What is read well is read so elsewhere, unless there were too many ahead. -/
def Moves {α : Type} (k c m : Nat) (r r' : PR α) : Prop := ∀ d i' m', r = .ok d i' m' → m ≤ m' ∧ ((m' + c ≤ 10000 ∧ r' = .ok d (k + i') (m' + c)) ∨ (10000 < m' + c ∧ ∃ a, r' = .bad 62 a))
theorem shift_parse (L L' : List Tok) (k c : Nat) (h : Shift L L' k) (hE : EndL L) : ∀ n,
    (∀ n' i o m, n ≤ n' → i < L.length → Moves k c m (pDat L n i o m) (pDat L' n' (k + i) o (m + c))) ∧
    (∀ n' i o m acc, n ≤ n' → i < L.length → m + c ≤ 10000 → Moves k c m (pList L n i o m acc) (pList L' n' (k + i) o (m + c) acc)) := by
  intro n
  induction n with
  | zero => exact ⟨fun n' i o m _ _ d i' m' h => (by rw [pDat] at h; cases h), fun n' i o m acc _ _ _ d i' m' h => (by rw [pList] at h; cases h)⟩
  | succ n ih =>
    obtain ⟨ihD, ihL⟩ := ih
    refine ⟨fun n' i o m hn hi d i' m' hr => ?_, fun n' i o m acc hn hi hmc d i' m' hr => ?_⟩
    · obtain ⟨n', rfl⟩ : ∃ q, n' = q + 1 := ⟨n' - 1, by omega⟩
      obtain ⟨e1, e2⟩ := h.K hi
      rw [pDat] at hr
      rw [pDat, e1, e2]
      by_cases h1 : tokK L i = 1
      · rw [if_pos h1] at hr ⊢
        by_cases h100 : 100 ≤ o
        · rw [if_pos h100] at hr; cases hr
        · rw [if_neg h100] at hr ⊢
          by_cases h10 : 10000 < m + 1
          · rw [if_pos h10] at hr; cases hr
          · rw [if_neg h10] at hr
            have hi1 := hE.lt hi (by omega)
            by_cases hc : 10000 < m + c + 1
            · rw [if_pos hc]
              refine ⟨?_, .inr ⟨?_, _, rfl⟩⟩
              all_goals
                have := list_mono L hE n (i + 1) (o + 1) (m + 1) [] d i' m' hi1 hr
                omega
            · rw [if_neg hc]
              have := ihL n' (i + 1) (o + 1) (m + 1) [] (by omega) hi1 (by omega) d i' m' hr
              rw [show m + 1 + c = m + c + 1 by omega, show k + (i + 1) = k + i + 1 by omega] at this
              exact ⟨by omega, this.2⟩
      · rw [if_neg h1] at hr ⊢
        by_cases h3 : tokK L i = 3
        · rw [if_pos h3] at hr ⊢
          by_cases h100 : 100 ≤ o
          · rw [if_pos h100] at hr; cases hr
          · rw [if_neg h100] at hr ⊢
            by_cases h10 : 10000 < m + 2
            · rw [if_pos h10] at hr; cases hr
            · rw [if_neg h10] at hr
              have hi1 := hE.lt hi (by omega)
              cases hx : pDat L n (i + 1) (o + 1) (m + 2) with
              | ok x j m2 =>
                rw [hx] at hr
                simp only [PR.ok.injEq] at hr
                obtain ⟨rfl, rfl, rfl⟩ := hr
                have hmono := dat_mono L hE n (i + 1) (o + 1) (m + 2) _ _ _ hi1 hx
                by_cases hc : 10000 < m + c + 2
                · rw [if_pos hc]
                  exact ⟨by omega, .inr ⟨by omega, _, rfl⟩⟩
                · rw [if_neg hc]
                  have := ihD n' (i + 1) (o + 1) (m + 2) (by omega) hi1 x j m2 hx
                  rw [show m + 2 + c = m + c + 2 by omega, show k + (i + 1) = k + i + 1 by omega] at this
                  refine ⟨by omega, ?_⟩
                  rcases this.2 with ⟨h5, h6⟩ | ⟨h5, a, h6⟩
                  · rw [h6]; exact .inl ⟨h5, rfl⟩
                  · rw [h6]; exact .inr ⟨h5, a, rfl⟩
              | bad e a => rw [hx] at hr; cases hr
              | out => rw [hx] at hr; cases hr
        · rw [if_neg h3] at hr ⊢
          by_cases h5 : 5 ≤ tokK L i ∧ tokK L i ≤ 8
          · rw [if_pos h5] at hr ⊢
            by_cases h10 : 10000 < m + 1
            · rw [if_pos h10] at hr; cases hr
            · rw [if_neg h10] at hr
              simp only [PR.ok.injEq] at hr
              obtain ⟨rfl, rfl, rfl⟩ := hr
              by_cases hc : 10000 < m + c + 1
              · rw [if_pos hc]; exact ⟨by omega, .inr ⟨by omega, _, rfl⟩⟩
              · rw [if_neg hc]; exact ⟨by omega, .inl ⟨by omega, by rw [show k + (i + 1) = k + i + 1 by omega, show m + 1 + c = m + c + 1 by omega]⟩⟩
          · rw [if_neg h5] at hr; cases hr
    · obtain ⟨n', rfl⟩ : ∃ q, n' = q + 1 := ⟨n' - 1, by omega⟩
      obtain ⟨e1, e2⟩ := h.K hi
      rw [pList] at hr
      rw [pList, e1]
      by_cases h2 : tokK L i = 2
      · rw [if_pos h2] at hr ⊢
        simp only [PR.ok.injEq] at hr
        obtain ⟨rfl, rfl, rfl⟩ := hr
        exact ⟨Nat.le_refl _, .inl ⟨hmc, by rw [show k + (i + 1) = k + i + 1 by omega]⟩⟩
      · rw [if_neg h2] at hr ⊢
        by_cases h4 : 0 < acc.length ∧ tokK L i = 4
        · rw [if_pos h4] at hr ⊢
          have hi1 := hE.lt hi (by omega)
          cases hx : pDat L n (i + 1) o m with
          | ok x j m2 =>
            rw [hx] at hr
            simp only at hr
            have hxl := pdat_lt L hE n (i + 1) o m x j m2 hi1 hx
            by_cases hc : tokK L j = 2
            · rw [if_pos hc] at hr
              simp only [PR.ok.injEq] at hr
              obtain ⟨rfl, rfl, rfl⟩ := hr
              have := ihD n' (i + 1) o m (by omega) hi1 x j m2 hx
              rw [show k + (i + 1) = k + i + 1 by omega] at this
              refine ⟨this.1, ?_⟩
              rcases this.2 with ⟨h5, h6⟩ | ⟨h5, a, h6⟩
              · rw [h6]
                simp only
                rw [(h.K hxl).1, if_pos hc]
                exact .inl ⟨h5, by rw [show k + (j + 1) = k + j + 1 by omega]⟩
              · rw [h6]; exact .inr ⟨h5, a, rfl⟩
            · rw [if_neg hc] at hr; cases hr
          | bad e a => rw [hx] at hr; cases hr
          | out => rw [hx] at hr; cases hr
        · rw [if_neg h4] at hr ⊢
          cases hx : pDat L n i o m with
          | ok x j m2 =>
            rw [hx] at hr
            simp only at hr
            have hxl := pdat_lt L hE n i o m x j m2 hi hx
            have := ihD n' i o m (by omega) hi x j m2 hx
            rcases this.2 with ⟨h5, h6⟩ | ⟨h5, a, h6⟩
            · rw [h6]
              simp only
              have h7 := ihL n' j o m2 (acc ++ [x]) (by omega) hxl h5 d i' m' hr
              exact ⟨by omega, h7.2⟩
            · rw [h6]
              have := list_mono L hE n j o m2 (acc ++ [x]) d i' m' hxl hr
              exact ⟨by omega, .inr ⟨by omega, a, rfl⟩⟩
          | bad e a => rw [hx] at hr; cases hr
          | out => rw [hx] at hr; cases hr
theorem shift_top (L L' : List Tok) (k c : Nat) (h : Shift L L' k) (hE : EndL L) (acc0 : List Dat) : ∀ n n' i m acc l i' m', n ≤ n' → i < L.length → pTop L n i m acc = .ok l i' m' →
    (∃ j q, pTop L' n' (k + i) (m + c) (acc0 ++ acc) = .ok (acc0 ++ l) j q) ∨ (10000 < m' + c ∧ ∃ a, pTop L' n' (k + i) (m + c) (acc0 ++ acc) = .bad 62 a) := by
  intro n
  induction n with
  | zero => intro n' i m acc l i' m' _ _ h; rw [pTop] at h; cases h
  | succ n ih =>
    intro n' i m acc l i' m' hn hi hr
    obtain ⟨n', rfl⟩ : ∃ q, n' = q + 1 := ⟨n' - 1, by omega⟩
    obtain ⟨e1, e2⟩ := h.K hi
    rw [pTop] at hr
    rw [pTop, e1]
    by_cases hk : tokK L i = 9
    · rw [if_pos hk] at hr ⊢
      simp only [PR.ok.injEq] at hr
      obtain ⟨rfl, rfl, rfl⟩ := hr
      exact .inl ⟨_, _, rfl⟩
    · rw [if_neg hk] at hr ⊢
      cases hx : pDat L n i 0 m with
      | ok x j m2 =>
        rw [hx] at hr
        simp only at hr
        have hxl := pdat_lt L hE n i 0 m x j m2 hi hx
        rcases ((shift_parse L L' k c h hE n).1 n' i 0 m (by omega) hi x j m2 hx).2 with ⟨h5, h6⟩ | ⟨h5, a, h6⟩
        · rw [h6]
          simp only
          have := ih n' j m2 (acc ++ [x]) l i' m' (by omega) hxl hr
          rw [List.append_assoc]
          exact this
        · rw [h6]
          have := top_mono L hE n j m2 (acc ++ [x]) l i' m' hxl hr
          exact .inr ⟨by omega, a, rfl⟩
      | bad e a => rw [hx] at hr; cases hr
      | out => rw [hx] at hr; cases hr
end Go.Proofs.Ytnnjhafjcdjobaa
