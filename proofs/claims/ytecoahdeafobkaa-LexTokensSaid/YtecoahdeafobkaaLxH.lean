/- Lex: skip. -/
import Derived.Test.YtecoahdeafobkaaLxG
namespace Go.Proofs.Ytecoahdeafobkaa
open Go.RowKit
set_option linter.unusedVariables false

theorem isBI_iff (c : Int) : isBI c = true ↔ c = 32 ∨ c = 9 ∨ c = 10 ∨ c = 13 := by simp [isBI]
theorem skip_blank {s : ByteArray} {k : Nat} (h : k < s.size) (hb : isBI (at' s k) = true) : skipG s false k = skipG s false (k + 1) := by
  rw [skipG, if_pos h, if_neg (by simp), if_pos hb]
theorem skip_stop {s : ByteArray} {k : Nat} (h : k < s.size) (hb : isBI (at' s k) = false) (h59 : at' s k ≠ 59) : skipG s false k = k := by
  rw [skipG, if_pos h, if_neg (by simp), if_neg (by simp [hb]), if_neg h59]
theorem skip_comment {s : ByteArray} {k : Nat} (h : k < s.size) (h59 : at' s k = 59) : skipG s false k = skipG s true k := by
  rw [skipG, if_pos h, if_neg (by simp), if_neg (by rw [h59]; decide), if_pos h59]
  rw [skipG.eq_def s true k, if_pos h, if_pos rfl, if_neg (by omega)]
theorem skip_none {s : ByteArray} {k : Nat} (h : k ≤ s.size) (hn : ∀ j, k ≤ j → j < s.size → at' s j ≠ 10) : skipG s true k = s.size := by
  rw [skipG_true s s.size (s.size - k) k (by omega) (Nat.le_refl _) hn, skipG_end _ _ _ (Nat.le_refl _)]
theorem skip_line {s : ByteArray} {k i : Nat} (h : k + i < s.size) (h10 : at' s (k + i) = 10) (hn : ∀ j, k ≤ j → j < k + i → at' s j ≠ 10) : skipG s true k = skipG s false (k + i) := by
  rw [skipG_true s (k + i) i k rfl (by omega) hn, skipG, if_pos h, if_pos rfl, if_pos h10]
  rw [skipG.eq_def s false (k + i), if_pos h, if_neg (by simp), if_pos (by rw [h10]; decide)]

theorem skip_calls (s : ByteArray) (hs : Small s) (a : Nat) (ha : a ≤ s.size) (w : World) : Calls Try.prog 53 #[.string s, .int .i64 a] w fun e w' => e = .returned (.int .i64 (skipG s false a)) ∧ w = w' := by
  have hsz := hs.le
  go_enter Try.func53, Try.ntmps53
  go_wp2
  go_loop [1] (fun i => ∃ k : Nat, k ≤ s.size ∧ i = .int .i64 k ∧ skipG s false k = skipG s false a) (fun i => s.size - (intOf i).toNat)
  case atStart => exact ⟨a, ha, rfl, rfl⟩
  case round =>
    obtain ⟨k, hk, rfl, hall⟩ := hrel
    have Hall := Lib.hid hall
    clear hall
    by_cases hlt : k < s.size
    · have hv := at_eq s k hlt
      generalize hc : at' s k = c at *
      have hc' := Lib.hid hc
      clear hc
      cases hb : isBI c
      · have hnb : ¬ (c = 32 ∨ c = 9 ∨ c = 10 ∨ c = 13) := fun x => by rw [(isBI_iff c).2 x] at hb; exact absurd hb (by simp)
        have n1 : (c == 32) = false := by rw [beq_eq_false_iff_ne]; omega
        have n2 : (c == 9) = false := by rw [beq_eq_false_iff_ne]; omega
        have n3 : (c == 10) = false := by rw [beq_eq_false_iff_ne]; omega
        have n4 : (c == 13) = false := by rw [beq_eq_false_iff_ne]; omega
        clear hnb
        by_cases h59 : c = 59
        · subst h59
          have hsk := skip_comment hlt hc'.out
          have k0 : (0 : Int) ≤ k := by omega
          have k1 : (k : Int) ≤ s.size := by omega
          rcases nl_spec s k hk with ⟨hi, hn⟩ | ⟨i, hi, hi1, hi2, hi3⟩
          · have hsn := skip_none hk hn
            have Hsk := Lib.hid (hsk.trans hsn)
            clear hsk hsn hn
            go_wp2_with (go_at_call 59; refine (Try.strings_IndexByte _ _ _).mono ?_; rintro e w' ⟨rfl, rfl⟩; rw [show (Int.toNat 10).toUInt8 = 10 from rfl, hi])
            go_ret
            exact ⟨by rw [← Hall.out, Hsk.out]; rfl, rfl⟩
          · have hsn := skip_line hi1 hi2 hi3
            have Hsk := Lib.hid (hsk.trans hsn)
            have hpos : 0 < i := by
              rcases Nat.eq_zero_or_pos i with h | h
              · subst h
                rw [Nat.add_zero, hc'.out] at hi2
                exact absurd hi2 (by decide)
              · exact h
            clear hsk hsn hi3 hi2
            go_wp2_with (go_at_call 59; refine (Try.strings_IndexByte _ _ _).mono ?_; rintro e w' ⟨rfl, rfl⟩; rw [show (Int.toNat 10).toUInt8 = 10 from rfl, hi])
            go_round
            case rel => exact ⟨k + i, by omega, by go_num, by rw [← Hall.out, Hsk.out]⟩
            case measure => simp [intOf]; omega
        · have n5 : (c == 59) = false := by rw [beq_eq_false_iff_ne]; omega
          have hst := skip_stop hlt (by rw [hc'.out]; exact hb) (by rw [hc'.out]; exact h59)
          have Hst := Lib.hid hst
          clear hst
          go_wp2
          go_ret
          exact ⟨by rw [← Hall.out, Hst.out]; rfl, rfl⟩
      · have hst := skip_blank hlt (by rw [hc'.out]; exact hb)
        have Hst := Lib.hid hst
        clear hst
        rcases (isBI_iff c).1 hb with rfl | rfl | rfl | rfl
        all_goals
          go_wp2
          go_round
          case rel => exact ⟨k + 1, by omega, by go_num, by rw [← Hall.out, Hst.out]⟩
          case measure => simp [intOf]; omega
    · have hkn : k = s.size := by omega
      subst hkn
      go_wp2
      go_ret
      exact ⟨by rw [← Hall.out, skipG_end _ _ _ (Nat.le_refl _)]; rfl, rfl⟩
end Go.Proofs.Ytecoahdeafobkaa
