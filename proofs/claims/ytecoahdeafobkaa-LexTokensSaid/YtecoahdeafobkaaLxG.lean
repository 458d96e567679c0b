/- Lex: IsSymbol of the program and of the reference; blanks and comments. -/
import Derived.Test.YtecoahdeafobkaaLxF
import Derived.Test.YtecoahdeafobkaaShelf
namespace Go.Proofs.Ytecoahdeafobkaa
open Go.RowKit
set_option linter.unusedVariables false

def symB (s : ByteArray) : Bool := decide (s.size ≠ 0) && worB s && (wE s == 0) && (wK s == 6)
theorem symB_no {s : ByteArray} {k : Nat} (hk : k < s.size) (h : isWI (at' s k) = false) : symB s = false := by
  have : worB s = false := by
    rw [worB, decide_eq_false_iff_not]
    intro g
    rw [g k hk] at h
    exact absurd h (by simp)
  simp [symB, this]

theorem isSymbol_calls (s : ByteArray) (hs : Small s) (w : World) : Calls Try.prog 10 #[.string s] w fun e w' => e = .returned (.bool (symB s)) ∧ New w w' := by
  have hsz := hs.le
  go_enter Try.func10, Try.ntmps10
  go_wp2
  go_loop [8] (fun i => ∃ k : Nat, k ≤ s.size ∧ i = .int .i64 k ∧ ∀ j, j < k → isWI (at' s j) = true) (fun i => s.size - (intOf i).toNat)
  case atStart => exact ⟨0, Nat.zero_le _, rfl, by intro j hj; omega⟩
  case round =>
    obtain ⟨k, hk, rfl, hall⟩ := hrel
    have Hall := Lib.hid hall
    clear hall
    by_cases hlt : k < s.size
    · have hv := at_eq s k hlt
      generalize hc : at' s k = c at *
      have hc' := Lib.hid hc
      clear hc
      cases hd : isWI c
      · go_wp2_with (go_at_call 22; refine (isWord_calls _ _).mono ?_; rintro e w' ⟨rfl, rfl⟩)
        go_ret
        exact ⟨by rw [symB_no hlt (by rw [hc'.out]; exact hd)]; rfl, Upd.refl _ _⟩
      · go_wp2_with (go_at_call 22; refine (isWord_calls _ _).mono ?_; rintro e w' ⟨rfl, rfl⟩)
        go_round
        case rel =>
          refine ⟨k + 1, by omega, by go_num, ?_⟩
          intro j hj
          by_cases h : j = k
          · subst h; rw [hc'.out]; exact hd
          · exact Hall.out j (by omega)
        case measure => simp [intOf]; omega
    · have hkn : k = s.size := by omega
      subst hkn
      have hwor : worB s = true := decide_eq_true Hall.out
      by_cases h0 : s.size = 0
      · have he : s.toList.isEmpty = true := by rw [empty_iff]; simp [h0]
        go_wp2_with (fail)
        go_ret
        exact ⟨by simp [symB, h0], Upd.refl _ _⟩
      · have he : s.toList.isEmpty = false := by rw [empty_iff]; simp [h0]
        have hw := Lib.hid (word_calls s hs (by omega))
        have hsy : symB s = ((wE s == 0) && (wK s == 6)) := by simp [symB, h0, hwor]
        replace hsy := Lib.hid hsy
        generalize wE s = e1 at *
        generalize wK s = k1 at *
        generalize wT s = t1 at *
        generalize wN s = n1 at *
        unfold tokV at hw
        by_cases h1 : (e1 == 0) = true
        · go_wp2_with (go_at_call 23; refine (hw.out _).mono ?_; rintro e w1 ⟨rfl, hu⟩)
          go_ret
          exact ⟨by rw [hsy.out, h1]; rfl, hu.alloc _⟩
        · replace h1 : (e1 == 0) = false := by simpa using h1
          go_wp2_with (go_at_call 23; refine (hw.out _).mono ?_; rintro e w1 ⟨rfl, hu⟩)
          go_ret
          exact ⟨by rw [hsy.out, h1]; rfl, hu.alloc _⟩

theorem RisSymbol_calls (s : ByteArray) (hs : Small s) (w : World) : Calls Try.prog 11 #[.string s] w fun e w' => e = .returned (.bool (symB s)) ∧ New w w' := by
  have hsz := hs.le
  by_cases h0 : s.size = 0
  · have he : s.toList.isEmpty = true := by rw [empty_iff]; simp [h0]
    go_enter Try.func11, Try.ntmps11
    go_wp2
    go_ret
    exact ⟨by simp [symB, h0], Upd.refl _ _⟩
  · have he : s.toList.isEmpty = false := by rw [empty_iff]; simp [h0]
    go_enter Try.func11, Try.ntmps11
    go_wp2
    go_loop [3] (fun i => ∃ k : Nat, k ≤ s.size ∧ i = .int .i64 k ∧ ∀ j, j < k → isWI (at' s j) = true) (fun i => s.size - (intOf i).toNat)
    case atStart => exact ⟨0, Nat.zero_le _, rfl, by intro j hj; omega⟩
    case round =>
      obtain ⟨k, hk, rfl, hall⟩ := hrel
      have Hall := Lib.hid hall
      clear hall
      by_cases hlt : k < s.size
      · have hv := at_eq s k hlt
        generalize hc : at' s k = c at *
        have hc' := Lib.hid hc
        clear hc
        cases hd : isWI c
        · go_wp2_with (go_at_call 24; refine (plain_calls _ _).mono ?_; rintro e w' ⟨rfl, rfl⟩)
          go_ret
          exact ⟨by rw [symB_no hlt (by rw [hc'.out]; exact hd)]; rfl, Upd.refl _ _⟩
        · go_wp2_with (go_at_call 24; refine (plain_calls _ _).mono ?_; rintro e w' ⟨rfl, rfl⟩)
          go_round
          case rel =>
            refine ⟨k + 1, by omega, by go_num, ?_⟩
            intro j hj
            by_cases h : j = k
            · subst h; rw [hc'.out]; exact hd
            · exact Hall.out j (by omega)
          case measure => simp [intOf]; omega
      · have hkn : k = s.size := by omega
        subst hkn
        have hwor : worB s = true := decide_eq_true Hall.out
        have hw := Lib.hid (Rword_calls s hs (by omega))
        have hsy : symB s = ((wE s == 0) && (rK s == 6)) := by
          simp only [symB, hwor, rK]
          by_cases h : wE s = 0 <;> simp [h, h0]
        replace hsy := Lib.hid hsy
        generalize wE s = e1 at *
        generalize rK s = k1 at *
        generalize wT s = t1 at *
        generalize wN s = n1 at *
        unfold tokV at hw
        by_cases h1 : (e1 == 0) = true
        · go_wp2_with (go_at_call 25; refine (hw.out _).mono ?_; rintro e w1 ⟨rfl, hu⟩)
          go_ret
          exact ⟨by rw [hsy.out, h1]; rfl, hu.alloc _⟩
        · replace h1 : (e1 == 0) = false := by simpa using h1
          go_wp2_with (go_at_call 25; refine (hw.out _).mono ?_; rintro e w1 ⟨rfl, hu⟩)
          go_ret
          exact ⟨by rw [hsy.out, h1]; rfl, hu.alloc _⟩

/-- The place behind blanks and comments; c: within a comment. -/
def skipG (s : ByteArray) (c : Bool) (a : Nat) : Nat :=
  if a < s.size then
    (if c then (if at' s a = 10 then skipG s false (a + 1) else skipG s true (a + 1))
     else if isBI (at' s a) then skipG s false (a + 1) else if at' s a = 59 then skipG s true (a + 1) else a)
  else a
termination_by s.size - a

theorem skipG_true (s : ByteArray) (p : Nat) : ∀ n a, p = a + n → p ≤ s.size → (∀ j, a ≤ j → j < p → at' s j ≠ 10) → skipG s true a = skipG s true p := by
  intro n
  induction n with
  | zero => intro a h _ _; rw [h]; rfl
  | succ n ih =>
    intro a h hp hn
    rw [skipG, if_pos (by omega), if_pos rfl, if_neg (hn a (Nat.le_refl _) (by omega))]
    exact ih (a + 1) (by omega) hp (fun j h1 h2 => hn j (by omega) h2)
theorem skipG_end (s : ByteArray) (c : Bool) (a : Nat) (h : s.size ≤ a) : skipG s c a = a := by rw [skipG, if_neg (by omega)]
theorem skipG_le (s : ByteArray) : ∀ n c a, s.size - a = n → a ≤ s.size → skipG s c a ≤ s.size := by
  intro n
  induction n with
  | zero => intro c a h ha; rw [skipG_end s c a (by omega)]; exact ha
  | succ n ih =>
    intro c a h ha
    rw [skipG, if_pos (by omega)]
    repeat' split
    all_goals first | exact ih _ _ (by omega) (by omega) | exact ha
theorem skipG_ge (s : ByteArray) : ∀ n c a, s.size - a = n → a ≤ skipG s c a := by
  intro n
  induction n with
  | zero => intro c a h; rw [skipG_end s c a (by omega)]; exact Nat.le_refl _
  | succ n ih =>
    intro c a h
    rw [skipG]
    repeat' split
    all_goals first | (refine Nat.le_trans (Nat.le_succ a) (ih _ _ (by omega))) | exact Nat.le_refl _

theorem indexByte_spec (c : UInt8) : ∀ l : List UInt8, (Lib.indexByte l c = -1 ∧ ∀ j, j < l.length → l.getD j 0 ≠ c) ∨
    (∃ i : Nat, Lib.indexByte l c = i ∧ i < l.length ∧ l.getD i 0 = c ∧ ∀ j, j < i → l.getD j 0 ≠ c)
  | [] => .inl ⟨rfl, by intro j hj; simp at hj⟩
  | b :: l => by
    by_cases h : (b == c) = true
    · refine .inr ⟨0, by simp [Lib.indexByte, h], by simp, by simpa using h, by intro j hj; omega⟩
    · have hb : b ≠ c := by simpa using h
      have h' : (b == c) = false := by simpa using h
      rcases indexByte_spec c l with ⟨h1, h2⟩ | ⟨i, h1, h2, h3, h4⟩
      · refine .inl ⟨by simp [Lib.indexByte, h', h1], ?_⟩
        intro j hj
        cases j with
        | zero => simpa using hb
        | succ j => simpa using h2 j (by simpa using hj)
      · refine .inr ⟨i + 1, ?_, by simpa using h2, by simpa using h3, ?_⟩
        · have : ¬ (Lib.indexByte l c == -1) = true := by rw [h1]; simp
          simp only [Lib.indexByte, h', this]
          rw [h1]; simp
        · intro j hj
          cases j with
          | zero => simpa using hb
          | succ j => simpa using h4 j (by omega)

theorem nl_spec (s : ByteArray) (k : Nat) (hk : k ≤ s.size) :
    (Lib.indexByte (s.extract k s.size).data.toList 10 = -1 ∧ ∀ j, k ≤ j → j < s.size → at' s j ≠ 10) ∨
    (∃ i : Nat, Lib.indexByte (s.extract k s.size).data.toList 10 = i ∧ k + i < s.size ∧ at' s (k + i) = 10 ∧ ∀ j, k ≤ j → j < k + i → at' s j ≠ 10) := by
  have hl : (s.extract k s.size).data.toList.length = s.size - k := by rw [← Lib.size_eq, ByteArray.size_extract]; omega
  have hat : ∀ j, k + j < s.size → at' s (k + j) = (((s.extract k s.size).data.toList.getD j 0).toNat : Int) := fun j hj => (at_extract s k s.size j hj).symm
  rcases indexByte_spec 10 (s.extract k s.size).data.toList with ⟨h1, h2⟩ | ⟨i, h1, h2, h3, h4⟩
  · refine .inl ⟨h1, fun j hj hjs hx => ?_⟩
    refine h2 (j - k) (by omega) ?_
    have := hat (j - k) (by omega)
    rw [show k + (j - k) = j from by omega, hx] at this
    exact UInt8.toNat_inj.mp (by have : ((s.extract k s.size).data.toList.getD (j - k) 0).toNat = 10 := by omega
                                 rw [this]; rfl)
  · refine .inr ⟨i, h1, by omega, ?_, fun j hj hjs hx => ?_⟩
    · rw [hat i (by omega), h3]; rfl
    · refine h4 (j - k) (by omega) ?_
      have := hat (j - k) (by omega)
      rw [show k + (j - k) = j from by omega, hx] at this
      exact UInt8.toNat_inj.mp (by have : ((s.extract k s.size).data.toList.getD (j - k) 0).toNat = 10 := by omega
                                   rw [this]; rfl)
end Go.Proofs.Ytecoahdeafobkaa
