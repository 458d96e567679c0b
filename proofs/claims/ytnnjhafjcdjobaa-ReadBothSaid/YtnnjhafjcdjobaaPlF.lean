/- Read: two texts, and blanks between, in plain Lean: what is read. -/
import Derived.Test.YtnnjhafjcdjobaaPlE
namespace Go.Proofs.Ytnnjhafjcdjobaa
open Go.RowKit
set_option linter.unusedVariables false
set_option linter.unusedSimpArgs false

theorem nextOf_codes (s : ByteArray) (a : Nat) : (nextOf s a).2.2 = 0 ∨ (nextOf s a).2.2 = 50 ∨ (nextOf s a).2.2 = 51 ∨ (nextOf s a).2.2 = 52 := by
  have hw : ∀ t, wE t = 0 ∨ wE t = 50 ∨ wE t = 51 ∨ wE t = 52 := by
    intro t
    unfold wE
    split
    · rcases numE_cases (bare t) (isNeg t) with h | h
      · exact .inl h
      · exact .inr (.inr (.inr h))
    · split
      · exact .inr (.inr (.inl rfl))
      · exact .inl rfl
  unfold nextOf tokAt
  repeat' split
  all_goals first | exact .inl rfl | exact .inr (.inl rfl) | exact hw _
theorem toks_codes (s : ByteArray) : ∀ n a, s.size - a = n → a ≤ s.size → (toks s a).2.1 = 0 ∨ (toks s a).2.1 = 50 ∨ (toks s a).2.1 = 51 ∨ (toks s a).2.1 = 52 := by
  intro n
  induction n using Nat.strongRecOn with
  | ind n ih =>
    intro a hn ha
    by_cases he : (nextOf s a).2.2 = 0
    · by_cases hk : (nextOf s a).1.k = 9
      · rw [toks_end he hk]; exact .inl rfl
      · have hp := nextOf_place s a ha he hk
        rw [toks_more ha he hk]
        exact ih (s.size - (nextOf s a).2.1) (by omega) _ rfl hp.2
    · rw [toks_err he]
      exact nextOf_codes s a
/-- Where the tokens end. -/
theorem toks_endK (s : ByteArray) (h : (toks s 0).2.1 = 0) : tokK (toks s 0).1 ((toks s 0).1.length - 1) = 9 ∧ tokA (toks s 0).1 ((toks s 0).1.length - 1) = s.size := by
  obtain ⟨L, hL, hk⟩ := toks_last s _ 0 rfl (Nat.zero_le _) h
  rw [hL]
  simp [tokK, tokA]
theorem bnd_parse (L : List Tok) : ∀ n,
    (∀ i o m d i' m', pDat L n i o m = .ok d i' m' → m' ≤ 10000) ∧ (∀ i o m acc d i' m', m ≤ 10000 → pList L n i o m acc = .ok d i' m' → m' ≤ 10000) := by
  intro n
  induction n with
  | zero => exact ⟨fun i o m d i' m' h => (by rw [pDat] at h; cases h), fun i o m acc d i' m' _ h => (by rw [pList] at h; cases h)⟩
  | succ n ih =>
    obtain ⟨ihD, ihL⟩ := ih
    refine ⟨fun i o m d i' m' hr => ?_, fun i o m acc d i' m' hm hr => ?_⟩
    · rw [pDat] at hr
      split at hr
      · split at hr
        · cases hr
        · split at hr
          · cases hr
          · exact ihL _ _ _ _ _ _ _ (by omega) hr
      · split at hr
        · split at hr
          · cases hr
          · split at hr
            · cases hr
            · split at hr
              · rename_i hx; simp only [PR.ok.injEq] at hr; have := ihD _ _ _ _ _ _ hx; omega
              · cases hr
              · cases hr
        · split at hr
          · split at hr
            · cases hr
            · simp only [PR.ok.injEq] at hr; omega
          · cases hr
    · rw [pList] at hr
      split at hr
      · simp only [PR.ok.injEq] at hr; omega
      · split at hr
        · split at hr
          · rename_i hx
            have := ihD _ _ _ _ _ _ hx
            split at hr
            · simp only [PR.ok.injEq] at hr; omega
            · cases hr
          · cases hr
          · cases hr
        · split at hr
          · rename_i hx
            exact ihL _ _ _ _ _ _ _ (ihD _ _ _ _ _ _ hx) hr
          · cases hr
          · cases hr
theorem bnd_top (L : List Tok) : ∀ n i m acc l i' m', m ≤ 10000 → pTop L n i m acc = .ok l i' m' → m' ≤ 10000 := by
  intro n
  induction n with
  | zero => intro i m acc l i' m' _ h; rw [pTop] at h; cases h
  | succ n ih =>
    intro i m acc l i' m' hm h
    rw [pTop] at h
    split at h
    · simp only [PR.ok.injEq] at h; omega
    · split at h
      · rename_i hx
        exact ih _ _ _ _ _ _ ((bnd_parse L n).1 _ _ _ _ _ _ hx) h
      · cases h
      · cases h
section
variable (s t u : ByteArray) (hu : u.data.toList = s.data.toList ++ [10] ++ t.data.toList) (hs : (toks s 0).2.1 = 0)
include hu hs
theorem both_toks : (toks u 0).2.1 = (toks t 0).2.1 ∧ (toks u 0).1 = (toks s 0).1.dropLast ++ (toks t 0).1.map (fun x => x.to (x.a + (s.size + 1))) := by
  obtain ⟨h1, h2⟩ := (join_toks1 s t u hu _ 0 rfl (Nat.zero_le _)).2 hs
  obtain ⟨h3, h4⟩ := join_toks2 s t u hu _ 0 rfl (Nat.zero_le _)
  rw [Nat.add_zero] at h3 h4
  exact ⟨h1.trans h3, by rw [h2, h4]⟩
theorem both_agree : Agree (toks s 0).1 (toks u 0).1 ((toks s 0).1.length - 1) := by
  intro i hi
  rw [(both_toks s t u hu hs).2, List.getElem?_append_left (by rw [List.length_dropLast]; exact hi), List.getElem?_dropLast, if_pos hi]
theorem both_shift : Shift (toks t 0).1 (toks u 0).1 ((toks s 0).1.length - 1) := by
  intro i hi
  refine ⟨(toks t 0).1[i], ((toks t 0).1[i]).to (((toks t 0).1[i]).a + (s.size + 1)), List.getElem?_eq_getElem hi, ?_, rfl⟩
  rw [(both_toks s t u hu hs).2, List.getElem?_append_right (by rw [List.length_dropLast]; omega), List.length_dropLast]
  rw [show (toks s 0).1.length - 1 + i - ((toks s 0).1.length - 1) = i by omega, List.getElem?_map, List.getElem?_eq_getElem hi]; rfl
theorem both_len (hpos : 0 < (toks s 0).1.length) : (toks u 0).1.length = (toks s 0).1.length - 1 + (toks t 0).1.length := by
  rw [(both_toks s t u hu hs).2, List.length_append, List.length_dropLast, List.length_map]
/-- Both are read: so is what has both, unless it is too much. -/
theorem both_ok (hsz : s.size ≤ 65536) (ht : ¬ tokErr t) {a b : List Dat} {i m j q : Nat} (ha : readP (toks s 0).1 = .ok a i m) (hb : readP (toks t 0).1 = .ok b j q) :
    (∃ i m, readP (toks u 0).1 = .ok (a ++ b) i m) ∨ ∃ p, readP (toks u 0).1 = .bad 62 p := by
  have hse : ¬ tokErr s := tokErr_of hsz hs
  have hEs := toks_endL s hse
  have hEt := toks_endL t ht
  have hp := hEs.pos
  have hlen := both_len s t u hu hs hp
  have hag := both_agree s t u hu hs
  have hsh := both_shift s t u hu hs
  obtain ⟨h9, -⟩ := toks_endK s hs
  unfold readP at ha hb ⊢
  rcases prefix_top _ _ _ hag h9 (2 * (toks s 0).1.length + 1) (2 * (toks u 0).1.length + 1) 0 0 [] (by have := hEt.pos; omega) (by omega) with h | ⟨e, h⟩ | ⟨e, p, h, _⟩ | ⟨acc', m', n'', i', h1, h2, h3, h4⟩
  · rw [h] at ha; cases ha
  · rw [h] at ha; cases ha
  · rw [h] at ha; cases ha
  · rw [h1] at ha
    simp only [PR.ok.injEq] at ha
    obtain ⟨rfl, rfl, rfl⟩ := ha
    have hik : i' = (toks s 0).1.length - 1 := by
      rcases h3 with h3 | ⟨h3, h5⟩
      · exact h3
      · exact absurd h5 (hEs.only i' (by omega))
    subst hik
    rw [h4]
    have := shift_top _ _ _ m' hsh hEt acc' (2 * (toks t 0).1.length + 1) n'' 0 0 [] b j q (by omega) hEt.pos hb
    rw [Nat.add_zero, Nat.zero_add, List.append_nil] at this
    rcases this with ⟨x, y, h⟩ | ⟨_, p, h⟩
    · exact .inl ⟨x, y, h⟩
    · exact .inr ⟨p, h⟩
/-- What goes wrong ahead of the end goes wrong so with more behind it. -/
theorem both_bad (hsz : s.size ≤ 65536) (ht : 0 < (toks t 0).1.length) {e : Int} {p : Nat} (ha : readP (toks s 0).1 = .bad e p) (hp : p < s.size) : readP (toks u 0).1 = .bad e p := by
  have hse : ¬ tokErr s := tokErr_of hsz hs
  have hEs := toks_endL s hse
  have hpos := hEs.pos
  have hlen := both_len s t u hu hs hpos
  have hag := both_agree s t u hu hs
  obtain ⟨h9, hA⟩ := toks_endK s hs
  unfold readP at ha ⊢
  rcases prefix_top _ _ _ hag h9 (2 * (toks s 0).1.length + 1) (2 * (toks u 0).1.length + 1) 0 0 [] (by omega) (by omega) with h | ⟨e', h⟩ | ⟨e', p', h, h'⟩ | ⟨acc', m', n'', i', h1, h2, h3, h4⟩
  · rw [h] at ha; cases ha
  · rw [h] at ha
    simp only [PR.bad.injEq] at ha
    omega
  · rw [h] at ha
    simp only [PR.bad.injEq] at ha
    rw [h', ha.1, ha.2]
  · rw [h1] at ha; cases ha
end

theorem gapRun_append : ∀ (x y : List UInt8) (c : Bool), gapRun c (x ++ y) = (gapRun c x).bind fun c' => gapRun c' y := by
  intro x
  induction x with
  | nil => intro y c; simp [gapRun]
  | cons a x ih =>
    intro y c
    cases c with
    | true =>
      simp only [List.cons_append, gapRun]
      split <;> exact ih y _
    | false =>
      simp only [List.cons_append, gapRun]
      split
      · exact ih y _
      · split
        · exact ih y _
        · rfl
theorem gapRun_true : ∀ (g : List UInt8) (c : Bool), gapRun false g = some c → ∃ c', gapRun true g = some c' := by
  intro g
  induction g with
  | nil => intro c _; exact ⟨true, rfl⟩
  | cons x g ih =>
    intro c h
    simp only [gapRun] at h ⊢
    by_cases h10 : bI x = 10
    · rw [if_pos h10]
      rw [if_pos (by rw [h10]; decide)] at h
      exact ⟨c, h⟩
    · rw [if_neg h10]
      by_cases hb : isBI (bI x) = true
      · rw [if_pos hb] at h; exact ih c h
      · rw [if_neg hb] at h
        by_cases h59 : bI x = 59
        · rw [if_pos h59] at h; exact ⟨c, h⟩
        · rw [if_neg h59] at h; cases h
theorem gapRun_nl (c : Bool) : gapRun c [10] = some false := by cases c <;> decide
/-- What skipping goes over is a gap. -/
theorem gap_of_skip (s : ByteArray) : ∀ n c p, s.size - p = n → p ≤ s.size → ∃ c', gapRun c (s.extract p (skipG s c p)).data.toList = some c' := by
  intro n
  induction n with
  | zero =>
    intro c p hn hp
    rw [skipG_end s c p (by omega)]
    exact ⟨c, by rw [Lib.extract_data]; simp [gapRun]⟩
  | succ n ih =>
    intro c p hn hp
    have hlt : p < s.size := by omega
    have hstep : ∀ q, p + 1 ≤ q → (s.extract p q).data.toList = s.data.toList.getD p 0 :: (s.extract (p + 1) q).data.toList := by
      intro q hq
      rw [Lib.extract_data, Lib.extract_data]
      have hl : p < s.data.toList.length := by rw [← Lib.size_eq]; exact hlt
      rw [List.drop_eq_getElem_cons hl, show q - p = (q - (p + 1)) + 1 by omega, List.take_succ_cons]
      congr 1
      rw [List.getD_eq_getElem?_getD, List.getElem?_eq_getElem hl]; rfl
    have hbI : bI (s.data.toList.getD p 0) = at' s p := rfl
    rw [skipG, if_pos hlt]
    cases c with
    | true =>
      simp only [if_true]
      by_cases h10 : at' s p = 10
      · rw [if_pos h10]
        obtain ⟨c', h⟩ := ih false (p + 1) (by omega) (by omega)
        have hge := skipG_ge s _ false (p + 1) rfl
        rw [hstep _ hge]
        exact ⟨c', by simp only [gapRun]; rw [hbI, if_pos h10]; exact h⟩
      · rw [if_neg h10]
        obtain ⟨c', h⟩ := ih true (p + 1) (by omega) (by omega)
        have hge := skipG_ge s _ true (p + 1) rfl
        rw [hstep _ hge]
        exact ⟨c', by simp only [gapRun]; rw [hbI, if_neg h10]; exact h⟩
    | false =>
      simp only [Bool.false_eq_true, if_false]
      by_cases hb : isBI (at' s p) = true
      · rw [if_pos hb]
        obtain ⟨c', h⟩ := ih false (p + 1) (by omega) (by omega)
        have hge := skipG_ge s _ false (p + 1) rfl
        rw [hstep _ hge]
        exact ⟨c', by simp only [gapRun]; rw [hbI, if_pos hb]; exact h⟩
      · rw [if_neg hb]
        by_cases h59 : at' s p = 59
        · rw [if_pos h59]
          obtain ⟨c', h⟩ := ih true (p + 1) (by omega) (by omega)
          have hge := skipG_ge s _ true (p + 1) rfl
          rw [hstep _ hge]
          exact ⟨c', by simp only [gapRun]; rw [hbI, if_neg hb, if_pos h59]; exact h⟩
        · rw [if_neg h59]
          exact ⟨false, by rw [Lib.extract_data]; simp [gapRun]⟩
/-- A text of blanks and comments alone. -/
theorem gap_text (g : ByteArray) (h0 : (toks g 0).2.1 = 0) (h1 : (toks g 0).1.length = 1) : ∃ c, gapRun false g.data.toList = some c := by
  obtain ⟨c, h⟩ := gap_of_skip g _ false 0 rfl (Nat.zero_le _)
  have hsk : skipG g false 0 = g.size := by
    have hle := skipG_le g _ false 0 rfl (Nat.zero_le _)
    rcases Nat.lt_or_ge (skipG g false 0) g.size with hlt | hge
    · by_cases he : (nextOf g 0).2.2 = 0
      · have hk := tokAt_kind g _ hlt he
        have hm := toks_more (Nat.zero_le _) he hk
        rw [hm] at h1 h0
        simp only [List.length_cons, Nat.add_eq_right] at h1
        have hp := nextOf_place g 0 (Nat.zero_le _) he hk
        obtain ⟨L, hL, _⟩ := toks_last g _ (nextOf g 0).2.1 rfl hp.2 h0
        rw [hL] at h1; simp at h1
      · rw [toks_err he] at h0; exact absurd h0 he
    · omega
  rw [hsk, extract_self] at h
  exact ⟨c, h⟩
/-- A text's tokens, spread: what is laid for the first k of them. -/
def sprB (s g : ByteArray) (L : List Tok) : Nat → ByteArray
  | 0 => ⟨#[]⟩
  | k + 1 => sprB s g L k ++ s.extract (tokA L k) (tokA L (k + 1)) ++ g ++ ⟨#[10]⟩
theorem spr_mono (s g : ByteArray) (L : List Tok) : ∀ n k, k ≤ n → ∃ r, (sprB s g L n).data.toList = (sprB s g L k).data.toList ++ r := by
  intro n
  induction n with
  | zero => intro k hk; have : k = 0 := by omega
            subst this; exact ⟨[], by simp⟩
  | succ n ih =>
    intro k hk
    rcases Nat.lt_or_ge k (n + 1) with h | h
    · obtain ⟨r, hr⟩ := ih k (by omega)
      exact ⟨r ++ ((s.extract (tokA L n) (tokA L (n + 1))).data.toList ++ g.data.toList ++ [10]), by rw [sprB]; simp only [ByteArray.data_append, Array.toList_append, hr, List.append_assoc]⟩
    · have : k = n + 1 := by omega
      subst this; exact ⟨[], by simp⟩
theorem tok_of (L : List Tok) {i : Nat} {x : Tok} (h : L[i]? = some x) : tokK L i = x.k ∧ tokA L i = x.a := by unfold tokK tokA; rw [h]; exact ⟨rfl, rfl⟩
theorem extract_split (s : ByteArray) {a p q : Nat} (h1 : a ≤ p) (h2 : p ≤ q) : (s.extract a q).data.toList = (s.extract a p).data.toList ++ (s.extract p q).data.toList := by
  rw [Lib.extract_data, Lib.extract_data, Lib.extract_data]
  rw [show q - a = (p - a) + (q - p) by omega, List.take_add, List.drop_drop, show a + (p - a) = p by omega]
/-- One token, spread. -/
theorem spr_step (s g : ByteArray) (h0 : (toks s 0).2.1 = 0) (c : Bool) (hg : gapRun false g.data.toList = some c) (T : ByteArray) (k n : Nat) (hk : k < n) (hn : n + 1 = (toks s 0).1.length) (hT : T = sprB s g (toks s 0).1 n) :
    ∃ x, (toks s 0).1[k]? = some x ∧ Run T (sprB s g (toks s 0).1 k).size [nf x] (sprB s g (toks s 0).1 (k + 1)).size := by
  have hp := toks_last s _ 0 rfl (Nat.zero_le _) h0
  obtain ⟨L0, hL0, hk9⟩ := hp
  have hxk : (toks s 0).1[k]? = some (toks s 0).1[k] := List.getElem?_eq_getElem (by omega)
  have hx9 : ((toks s 0).1[k]).k ≠ 9 := by
    have hl0 : L0.length = n := by have := congrArg List.length hL0; simp at this; omega
    have h2 : (toks s 0).1[k]? = some (L0[k]'(by omega)) := by rw [hL0, List.getElem?_append_left (by omega), List.getElem?_eq_getElem (by omega)]
    rw [hxk] at h2
    simp only [Option.some.injEq] at h2
    rw [h2]
    exact hk9 _ (List.getElem_mem _)
  generalize (toks s 0).1[k] = x at *
  obtain ⟨b, p, hb, hnx, y, hy, hny⟩ := toks_step s _ 0 rfl (Nat.zero_le _) h0 k x hxk hx9
  have hr := reads_of s (skipG s false b) p x hnx hx9
  have hxa : x.a = skipG s false b := hr.2.1
  rw [← hxa] at hr
  have hlt := hr.lt
  have hhd := hr.head
  have hya : y.a = skipG s false p := by
    have hle := skipG_le s _ false p rfl hlt.2
    exact tok_at_ge s _ hle y _ hny
  have hpy := skipG_ge s _ false p rfl
  have hyl := skipG_le s _ false p rfl hlt.2
  obtain ⟨c1, hc1⟩ := gap_of_skip s _ false p rfl hlt.2
  rw [← hya] at hc1 hpy hyl
  obtain ⟨-, e1⟩ := tok_of _ hxk
  obtain ⟨-, e2⟩ := tok_of _ hy
  refine ⟨x, hxk, ?_⟩
  obtain ⟨r, hr2⟩ := spr_mono s g (toks s 0).1 n (k + 1) (by omega)
  have hS : (sprB s g (toks s 0).1 (k + 1)).data.toList = (sprB s g (toks s 0).1 k).data.toList ++ (s.extract x.a p).data.toList ++ ((s.extract p y.a).data.toList ++ g.data.toList ++ [10]) := by
    rw [sprB, e1, e2]
    simp only [ByteArray.data_append, Array.toList_append, List.append_assoc]
    rw [extract_split s (show x.a ≤ p by omega) hpy]
    simp only [List.append_assoc]
  generalize hpre : (sprB s g (toks s 0).1 k).data.toList = pre at *
  generalize ho : (s.extract x.a p).data.toList = o at *
  generalize hgp : (s.extract p y.a).data.toList = gp at *
  have hsz1 : (sprB s g (toks s 0).1 k).size = pre.length := by rw [Lib.size_eq, hpre]
  have hsz2 : (sprB s g (toks s 0).1 (k + 1)).size = (pre ++ o ++ (gp ++ g.data.toList ++ [10])).length := by rw [Lib.size_eq, hS]
  have hol : o.length = p - x.a := by rw [← ho, ← Lib.size_eq, ByteArray.size_extract]; omega
  have hTl : T.data.toList = pre ++ o ++ (gp ++ g.data.toList ++ [10]) ++ r := by rw [hT, hr2, hS]
  have hTs := size_list T _ hTl
  simp only [List.length_append, List.length_cons, List.length_nil] at hTs
  -- the gap's first byte
  have hgr : gapRun false (gp ++ g.data.toList ++ [10]) = some false := by
    rw [gapRun_append, gapRun_append, hc1]
    simp only [Option.bind_some]
    have : ∃ c2, gapRun c1 g.data.toList = some c2 := by
      cases c1 with
      | false => exact ⟨c, hg⟩
      | true => exact gapRun_true _ c hg
    obtain ⟨c2, hc2⟩ := this
    rw [hc2]
    exact gapRun_nl c2
  have hfirst : ∃ z l, gp ++ g.data.toList ++ [10] = z :: l ∧ isWI (bI z) = false := by
    cases hgl : gp ++ g.data.toList ++ [10] with
    | nil => simp at hgl
    | cons z l =>
      refine ⟨z, l, rfl, ?_⟩
      rw [hgl] at hgr
      simp only [gapRun] at hgr
      by_cases hbz : isBI (bI z) = true
      · generalize bI z = q at *
        simp [isBI] at hbz
        simp [isWI]; omega
      · rw [if_neg hbz] at hgr
        by_cases h59 : bI z = 59
        · rw [h59]; decide
        · rw [if_neg h59] at hgr; cases hgr
  obtain ⟨z, l, hz, hzw⟩ := hfirst
  have hex : T.extract pre.length (pre.length + (p - x.a)) = s.extract x.a p := by
    refine ba_ext ?_
    rw [← hol, extract_list T pre o (gp ++ g.data.toList ++ [10] ++ r) (by rw [hTl]; simp only [List.append_assoc]), ho]
  have h0T : at' T pre.length = at' s x.a := by
    have h1 := at_extract T pre.length (pre.length + (p - x.a)) 0 (by omega)
    rw [hex, at_extract s x.a p 0 (by omega)] at h1
    simpa using h1.symm
  have hnw : isWI (at' T (pre.length + (p - x.a))) = false := by
    have := at_list T (pre ++ o) [z] (l ++ r) (by rw [hTl, hz]; simp) 0 (by simp)
    simp only [Nat.add_zero, List.getD_cons_zero, List.length_append, hol] at this
    rw [this]; exact hzw
  have htk := reads_move s T x.a p pre.length x hr hex (by omega) (.inr (.inr hnw))
  have hn1 : nextOf T pre.length = (x.to pre.length, pre.length + (p - x.a), 0) := by
    unfold nextOf
    rw [skip_stop (by omega) (by rw [h0T]; exact hhd.1) (by rw [h0T]; exact hhd.2), htk]
  rw [hsz1, hsz2]
  have hr1 : Run T pre.length [nf x] (pre.length + (p - x.a)) := by
    have : nf x = nf (x.to pre.length) := rfl
    rw [this]
    exact .cons _ _ _ (x.to pre.length) [] (by omega) hn1 hx9 (.nil _ (by omega))
  have hr3 := run_gap (T := T) (pre := pre ++ o) (g := gp ++ g.data.toList ++ [10]) (post := r) hTl hgr
  rw [List.length_append, hol] at hr3
  have := hr1.trans hr3
  rw [List.append_nil] at this
  have hl2 : (pre ++ o ++ (gp ++ g.data.toList ++ [10])).length = pre.length + (p - x.a) + (gp ++ g.data.toList ++ [10]).length := by simp only [List.length_append, hol]
  rw [hl2]
  exact this
theorem spr_run (s g : ByteArray) (h0 : (toks s 0).2.1 = 0) (c : Bool) (hg : gapRun false g.data.toList = some c) (T : ByteArray) (n : Nat) (hn : n + 1 = (toks s 0).1.length) (hT : T = sprB s g (toks s 0).1 n) :
    ∀ k, k ≤ n → Run T 0 (((toks s 0).1.take k).map nf) (sprB s g (toks s 0).1 k).size := by
  intro k
  induction k with
  | zero => intro _; exact .nil 0 (Nat.zero_le _)
  | succ k ih =>
    intro hk
    obtain ⟨x, hx, hr⟩ := spr_step s g h0 c hg T k n (by omega) hn hT
    rw [List.take_add_one, hx]
    simp only [Option.toList_some, List.map_append, List.map_cons, List.map_nil]
    exact (ih (by omega)).trans hr
/-- The spread text's tokens. -/
theorem spr_toks (s g : ByteArray) (h0 : (toks s 0).2.1 = 0) (hg0 : (toks g 0).2.1 = 0) (hg1 : (toks g 0).1.length = 1) :
    (toks (sprB s g (toks s 0).1 ((toks s 0).1.length - 1)) 0).2.1 = 0 ∧ (toks (sprB s g (toks s 0).1 ((toks s 0).1.length - 1)) 0).1.map nf = (toks s 0).1.map nf := by
  obtain ⟨c, hg⟩ := gap_text g hg0 hg1
  obtain ⟨L0, hL0, hk9⟩ := toks_last s _ 0 rfl (Nat.zero_le _) h0
  have hl : (toks s 0).1.length = L0.length + 1 := by rw [hL0]; simp
  have hr := spr_run s g h0 c hg _ L0.length (by omega) rfl L0.length (Nat.le_refl _)
  rw [show (toks s 0).1.length - 1 = L0.length by omega]
  have := run_all hr
  refine ⟨this.1, this.2.trans ?_⟩
  rw [hL0]
  simp [nf]
theorem spr_read (s g : ByteArray) (h0 : (toks s 0).2.1 = 0) (hsz : s.size ≤ 65536) (hg0 : (toks g 0).2.1 = 0) (hg1 : (toks g 0).1.length = 1) {a : List Dat} {i m : Nat} (ha : readP (toks s 0).1 = .ok a i m) :
    ∃ j q, readP (toks (sprB s g (toks s 0).1 ((toks s 0).1.length - 1)) 0).1 = .ok a j q := by
  obtain ⟨h1, h2⟩ := spr_toks s g h0 hg0 hg1
  have hE := toks_endL s (tokErr_of hsz h0)
  generalize (toks (sprB s g (toks s 0).1 ((toks s 0).1.length - 1)) 0).1 = L' at *
  generalize (toks s 0).1 = L at *
  have hlen : L'.length = L.length := by have := congrArg List.length h2; simpa using this
  have hsh : Shift L L' 0 := by
    intro i hi
    refine ⟨L[i], L'[i]'(by omega), List.getElem?_eq_getElem hi, by rw [Nat.zero_add]; exact List.getElem?_eq_getElem _, ?_⟩
    have := congrArg (fun l => l[i]?) h2
    simp only [List.getElem?_map, List.getElem?_eq_getElem hi, List.getElem?_eq_getElem (show i < L'.length by omega), Option.map_some, Option.some.injEq] at this
    exact this
  unfold readP at ha ⊢
  have hm := bnd_top L _ _ _ _ _ _ _ (by omega) ha
  have := shift_top L L' 0 0 hsh hE [] (2 * L.length + 1) (2 * L'.length + 1) 0 0 [] a i m (by omega) hE.pos ha
  rcases this with ⟨x, y, h⟩ | ⟨h, _⟩
  · exact ⟨x, y, h⟩
  · omega
end Go.Proofs.Ytnnjhafjcdjobaa
