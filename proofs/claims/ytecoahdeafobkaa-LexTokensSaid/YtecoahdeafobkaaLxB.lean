/- Lex: loops over a text: digits, numbers, are all bytes plain. -/
import Derived.Test.YtecoahdeafobkaaLx
import Derived.Test.YtecoahdeafobkaaFx
import Derived.Lib.Strings
namespace Go.Proofs.Ytecoahdeafobkaa
open Go.RowKit
set_option linter.unusedVariables false

/-- The byte at a place, as a number. -/
def at' (s : ByteArray) (i : Nat) : Int := (((s.data.toList.getD i 0).toNat : Nat) : Int)
theorem at_eq (s : ByteArray) (i : Nat) (h : i < s.size) : ((s[i].toNat : Nat) : Int) = at' s i := by
  obtain ⟨⟨l⟩⟩ := s
  have hl : i < l.length := h
  simp only [at', List.getD, List.getElem?_eq_getElem hl, Option.getD_some]
  rfl
def Small (s : ByteArray) : Prop := (s.size : Int) ≤ 1048576
theorem Small.le {s : ByteArray} (h : Small s) : (s.size : Int) ≤ 1048576 := h
def digB (s : ByteArray) : Bool := decide (s.size ≠ 0 ∧ ∀ j, j < s.size → isDI (at' s j) = true)
def worB (s : ByteArray) : Bool := decide (∀ j, j < s.size → isWI (at' s j) = true)
def pre (s : ByteArray) : Nat → Int
  | 0 => 0
  | k + 1 => 10 * pre s k + (at' s k - 48)

theorem empty_iff (s : ByteArray) : s.toList.isEmpty = decide (s.size = 0) := by
  rw [Lib.toList_data, Lib.size_eq]
  cases s.data.toList <;> simp

theorem digits_calls (s : ByteArray) (hs : Small s) (w : World) : Calls Try.prog 47 #[.string s] w fun e w' => e = .returned (.bool (digB s)) ∧ w = w' := by
  have hsz := hs.le
  go_enter Try.func47, Try.ntmps47
  go_wp2
  go_loop [6] (fun i => ∃ k : Nat, k ≤ s.size ∧ i = .int .i64 k ∧ ∀ j, j < k → isDI (at' s j) = true) (fun i => s.size - (intOf i).toNat)
  case atStart => exact ⟨0, Nat.zero_le _, rfl, by intro j hj; omega⟩
  case round =>
    obtain ⟨k, hk, rfl, hall⟩ := hrel
    have Hall := Lib.hid hall
    clear hall
    by_cases hlt : k < s.size
    · have hd := at_eq s k hlt
      by_cases hdd : isDI (at' s k) = true
      · have hdd' : isDI (s[k].toNat : Nat) = true := by rw [hd]; exact hdd
        go_wp2_with (go_at_call 49; refine (isDigit_calls _ _).mono ?_; rintro e w' ⟨rfl, rfl⟩)
        go_round
        case rel =>
          refine ⟨k + 1, by omega, by go_num, ?_⟩
          intro j hj
          by_cases h : j = k
          · subst h; exact hdd
          · exact Hall.out j (by omega)
        case measure => simp [intOf]; omega
      · have hdd' : isDI (s[k].toNat : Nat) = false := by rw [hd]; simpa using hdd
        go_wp2_with (go_at_call 49; refine (isDigit_calls _ _).mono ?_; rintro e w' ⟨rfl, rfl⟩)
        go_ret
        refine ⟨?_, rfl⟩
        have : digB s = false := by
          rw [digB, decide_eq_false_iff_not]
          intro ⟨_, h⟩
          exact hdd (h k hlt)
        rw [this]
        rfl
    · have hkn : k = s.size := by omega
      subst hkn
      go_wp2
      go_ret
      refine ⟨?_, rfl⟩
      have : digB s = !s.toList.isEmpty := by
        rw [empty_iff, digB, Bool.eq_iff_iff]
        simp only [decide_eq_true_eq, Bool.not_eq_true', decide_eq_false_iff_not]
        exact ⟨fun h => h.1, fun h => ⟨h, Hall.out⟩⟩
      rw [this]
      rfl

/-- The digits' value, below 0 and above. -/
def okN (s : ByteArray) : Prop := ∀ j, j ≤ s.size → pre s j ≤ 576460752303423488
instance (s : ByteArray) : Decidable (okN s) := by unfold okN; exact Nat.decidableBallLE s.size _
theorem pre_nonneg (s : ByteArray) (h : digB s = true) : ∀ k, k ≤ s.size → 0 ≤ pre s k := by
  have hd := (of_decide_eq_true h).2
  intro k
  induction k with
  | zero => intro _; simp [pre]
  | succ k ih =>
    intro hk
    have := ih (by omega)
    have h2 := of_decide_eq_true (hd k (by omega))
    simp only [pre]; omega

def refNum (s : ByteArray) (minus : Bool) : Value := if okN s then (if minus = true then .tuple #[.int .i64 (- pre s s.size), .bool true] else .tuple #[.int .i64 (pre s s.size), .bool (decide (pre s s.size < 576460752303423488))]) else .tuple #[.int .i64 0, .bool false]
/-- The program's number of digits r. -/
def proNum (r : ByteArray) (minus : Bool) : Value := if okN r then (if minus = true then .tuple #[.int .i64 (- pre r r.size), .int .i64 0] else if pre r r.size < 576460752303423488 then .tuple #[.int .i64 (pre r r.size), .int .i64 0] else .tuple #[.int .i64 0, .int .i64 52]) else .tuple #[.int .i64 0, .int .i64 52]

theorem refnumber_calls (s : ByteArray) (hs : Small s) (hd : digB s = true) (minus : Bool) (w : World) : Calls Try.prog 52 #[.string s, .bool minus] w fun e w' =>
    e = .returned (refNum s minus) ∧ w = w' := by
  have hnn := Lib.hid (pre_nonneg s hd)
  have hdd := Lib.hid (of_decide_eq_true hd).2
  clear hd
  have hsz := hs.le
  go_enter Try.func52, Try.ntmps52
  go_wp2
  go_loop [6, 7] (fun n i => ∃ k : Nat, k ≤ s.size ∧ i = .int .i64 k ∧ n = .int .i64 (pre s k) ∧ ∀ j, j ≤ k → pre s j ≤ 576460752303423488) (fun n i => s.size - (intOf i).toNat)
  case atStart => exact ⟨0, Nat.zero_le _, rfl, rfl, by intro j hj; have : j = 0 := by omega
                                                        subst this; simp [pre]⟩
  case round =>
    obtain ⟨k, hk, rfl, rfl, hall⟩ := hrel
    have p0 := hnn.out k hk
    have p1 := hall k (Nat.le_refl _)
    have Hall := Lib.hid hall
    clear hall
    by_cases hlt : k < s.size
    · have ha := at_eq s k hlt
      have h2 := of_decide_eq_true (hdd.out k hlt)
      rw [← ha] at h2
      have hp : pre s (k + 1) = 10 * pre s k + ((s[k].toNat : Nat) - 48) := by rw [ha]; rfl
      have hp0 := hnn.out (k + 1) (by omega)
      obtain ⟨h3, h4⟩ := h2
      clear ha
      generalize hc : ((s[k].toNat : Nat) : Int) = c at *
      have HP := Lib.hid hp
      generalize hq : pre s k = p at *
      have HQ := Lib.hid hq
      clear hp hq
      by_cases hbig : 576460752303423488 < 10 * p + (c - 48)
      · go_wp2
        go_ret2
        refine ⟨?_, rfl⟩
        rw [refNum, if_neg]
        · rfl
        · intro h
          have := h (k + 1) (by omega)
          have := HP.out
          omega
      · go_wp2
        go_round
        case rel =>
          have hh := HP.out
          refine ⟨k + 1, by omega, by go_num, by rw [hh], ?_⟩
          intro j hj
          by_cases h : j = k + 1
          · subst h; omega
          · exact Hall.out j (by omega)
        case measure => simp [intOf]; omega
    · have hkn : k = s.size := by omega
      subst hkn
      have hok : okN s := Hall.out
      cases minus
      · go_wp2
        go_ret2
        refine ⟨?_, rfl⟩
        rw [refNum, if_pos hok, if_neg (by simp)]
        rfl
      · go_wp2
        go_ret2
        refine ⟨?_, rfl⟩
        rw [refNum, if_pos hok, if_pos rfl]
        rfl

theorem number_pos (s r : ByteArray) (hs : Small s) (hm : at' s 0 ≠ 45) (hd : digB r = true) (hsr : s = r) (w : World) : Calls Try.prog 48 #[.string s] w fun e w' =>
    e = .returned (proNum r false) ∧ w = w' := by
  subst hsr
  have h0 : s.size ≠ 0 := (of_decide_eq_true hd).1
  have hnn := Lib.hid (pre_nonneg s hd)
  have hdd := Lib.hid (of_decide_eq_true hd).2
  clear hd
  have hsz := hs.le
  
  have hz : 0 < s.size := by omega
  have ha0 := at_eq s 0 hz
  rw [← ha0] at hm
  clear ha0
  
  go_enter Try.func48, Try.ntmps48
  go_wp2
  
  go_loop [5, 14] (fun n i => ∃ k : Nat, k ≤ s.size ∧ i = .int .i64 k ∧ n = .int .i64 (- pre s k) ∧ ∀ j, j ≤ k → pre s j ≤ 576460752303423488) (fun n i => s.size - (intOf i).toNat)
  case atStart => exact ⟨0, Nat.zero_le _, rfl, rfl, by intro j hj; have : j = 0 := by omega
                                                        subst this; simp [pre]⟩
  case round =>
    obtain ⟨k, hk, rfl, rfl, hall⟩ := hrel
    have p0 := hnn.out k hk
    have p1 := hall k (Nat.le_refl _)
    have Hall := Lib.hid hall
    clear hall
    by_cases hlt : k < s.size
    · have ha := at_eq s k hlt
      have h2 := of_decide_eq_true (hdd.out k hlt)
      rw [← ha] at h2
      have hp : pre s (k + 1) = 10 * pre s k + ((s[k].toNat : Nat) - 48) := by rw [ha]; rfl
      have hp0 := hnn.out (k + 1) (by omega)
      obtain ⟨h3, h4⟩ := h2
      clear ha
      generalize hc : ((s[k].toNat : Nat) : Int) = c at *
      have HP := Lib.hid hp
      generalize hq : pre s k = p at *
      have HQ := Lib.hid hq
      clear hp hq
      by_cases hbig : 576460752303423488 < 10 * p + (c - 48)
      · have hb1 : 10 * -p - (c - 48) < -576460752303423488 := by omega
        go_wp2
        go_ret2
        refine ⟨?_, rfl⟩
        rw [proNum, if_neg]
        · rfl
        · intro h
          have := h (k + 1) (by omega)
          have := HP.out
          omega
      · have hb1 : ¬ 10 * -p - (c - 48) < -576460752303423488 := by omega
        go_wp2
        go_round
        case rel =>
          have hh := HP.out
          refine ⟨k + 1, by omega, by go_num, by rw [hh]; congr 1; omega, ?_⟩
          intro j hj
          by_cases h : j = k + 1
          · subst h; omega
          · exact Hall.out j (by omega)
        case measure => simp [intOf]; omega
    · have hkn : k = s.size := by omega
      subst hkn
      have hok : okN s := Hall.out
      by_cases hbig : pre s s.size < 576460752303423488
      · go_wp2
        go_ret2
        refine ⟨?_, rfl⟩
        rw [proNum, if_pos hok, if_neg (by simp), if_pos hbig]
        simp
      · go_wp2
        go_ret2
        refine ⟨?_, rfl⟩
        rw [proNum, if_pos hok, if_neg (by simp), if_neg (by omega)]
        rfl

theorem number_neg (s r : ByteArray) (hr : s.extract 1 s.size = r) (hs : Small s) (hrs : Small r) (h0 : s.size ≠ 0) (hm : at' s 0 = 45) (hd : digB r = true) (w : World) : Calls Try.prog 48 #[.string s] w fun e w' =>
    e = .returned (proNum r true) ∧ ∃ q, w' = w.drewN q := by
  
  
  have hnn := Lib.hid (pre_nonneg r hd)
  have hdd := Lib.hid (of_decide_eq_true hd).2
  clear hd
  have hsz := hs.le
  have hrz := hrs.le
  have hz : 0 < s.size := by omega
  have ha0 := at_eq s 0 hz
  rw [hm] at ha0
  
  have hz1 : (1 : Int) ≤ s.size := by omega
  go_enter Try.func48, Try.ntmps48
  go_wp2
  go_quiet (fail)
  go_wp2
  go_loop [5, 14] (fun n i => ∃ k : Nat, k ≤ r.size ∧ i = .int .i64 k ∧ n = .int .i64 (- pre r k) ∧ ∀ j, j ≤ k → pre r j ≤ 576460752303423488) (fun n i => r.size - (intOf i).toNat)
  case atStart => exact ⟨0, Nat.zero_le _, rfl, rfl, by intro j hj; have : j = 0 := by omega
                                                        subst this; simp [pre]⟩
  case round =>
    obtain ⟨k, hk, rfl, rfl, hall⟩ := hrel
    have p0 := hnn.out k hk
    have p1 := hall k (Nat.le_refl _)
    have Hall := Lib.hid hall
    clear hall
    by_cases hlt : k < r.size
    · have ha := at_eq r k hlt
      have h2 := of_decide_eq_true (hdd.out k hlt)
      rw [← ha] at h2
      have hp : pre r (k + 1) = 10 * pre r k + ((r[k].toNat : Nat) - 48) := by rw [ha]; rfl
      have hp0 := hnn.out (k + 1) (by omega)
      obtain ⟨h3, h4⟩ := h2
      clear ha
      generalize hc : ((r[k].toNat : Nat) : Int) = c at *
      have HP := Lib.hid hp
      generalize hq : pre r k = p at *
      have HQ := Lib.hid hq
      clear hp hq
      by_cases hbig : 576460752303423488 < 10 * p + (c - 48)
      · have hb1 : 10 * -p - (c - 48) < -576460752303423488 := by omega
        go_wp2
        go_ret2
        refine ⟨?_, _, rfl⟩
        rw [proNum, if_neg]
        · rfl
        · intro h
          have := h (k + 1) (by omega)
          have := HP.out
          omega
      · have hb1 : ¬ 10 * -p - (c - 48) < -576460752303423488 := by omega
        go_wp2
        go_round
        case rel =>
          have hh := HP.out
          refine ⟨k + 1, by omega, by go_num, by rw [hh]; congr 1; omega, ?_⟩
          intro j hj
          by_cases h : j = k + 1
          · subst h; omega
          · exact Hall.out j (by omega)
        case measure => simp [intOf]; omega
    · have hkn : k = r.size := by omega
      subst hkn
      have hok : okN r := Hall.out
      generalize hq : pre r r.size = p at *
      have HQ := Lib.hid hq
      clear hq
      go_wp2
      go_ret2
      refine ⟨?_, _, rfl⟩
      rw [proNum, if_pos hok, if_pos rfl, HQ.out]
      rfl

end Go.Proofs.Ytecoahdeafobkaa
