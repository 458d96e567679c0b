/- Lex: the reference's Word. -/
import Derived.Test.YtecoahdeafobkaaLxD
namespace Go.Proofs.Ytecoahdeafobkaa
open Go.RowKit
set_option linter.unusedVariables false

theorem refNum_ex (r : ByteArray) (m : Bool) : ∃ n b, refNum r m = .tuple #[.int .i64 n, .bool b] := by
  unfold refNum; split
  · split
    · exact ⟨_, _, rfl⟩
    · exact ⟨_, _, rfl⟩
  · exact ⟨_, _, rfl⟩
def allK (r : ByteArray) (k : Nat) : Bool := decide (r.size ≠ 0 ∧ ∀ j, j < k → isDI (at' r j) = true)
theorem allK_zero (r : ByteArray) : allK r 0 = decide ((0 : Int) < r.size) := by
  unfold allK; rw [Bool.eq_iff_iff]; simp only [decide_eq_true_eq]
  exact ⟨fun h => by have := h.1; omega, fun h => ⟨by omega, by intro j hj; omega⟩⟩
theorem allK_succ (r : ByteArray) (k : Nat) : allK r (k + 1) = (allK r k && isDI (at' r k)) := by
  unfold allK; rw [Bool.eq_iff_iff]; simp only [decide_eq_true_eq, Bool.and_eq_true]
  constructor
  · intro ⟨h, g⟩; exact ⟨⟨h, fun j hj => g j (by omega)⟩, g k (by omega)⟩
  · intro ⟨⟨h, g⟩, d⟩; exact ⟨h, fun j hj => by
      by_cases e : j = k
      · subst e; exact d
      · exact g j (by omega)⟩

theorem Rword_dot (s : ByteArray) (hs : Small s) (h0 : (s.toList == [46]) = true) (w : World) :
    Calls Try.prog 25 #[.string s] w fun e w' => e = .returned (.tuple #[tokV 4 ⟨#[]⟩ 0 0, .int .i64 0]) ∧ New w w' := by
  have hsz := hs.le
  go_enter Try.func25, Try.ntmps25
  go_wp2_with (fail)
  refine bodyPost_ret (results_cell_tmp' rfl _ _ w.heap.size 34 #[.int .u8 4, .string ⟨#[]⟩, .int .i64 0, .int .i64 0] _ rfl (by exact heap_alloc_new w _) Try.underlying34 rfl size34 (.int .i64 0) rfl) rfl ⟨rfl, (Upd.refl _ w).alloc _⟩

theorem Rword_true (s : ByteArray) (hs : Small s) (h0 : (s.toList == [46]) = false) (h1 : (s.toList == [35, 116]) = true) (w : World) :
    Calls Try.prog 25 #[.string s] w fun e w' => e = .returned (.tuple #[tokV 8 ⟨#[]⟩ 0 0, .int .i64 0]) ∧ New w w' := by
  have hsz := hs.le
  go_enter Try.func25, Try.ntmps25
  go_wp2_with (fail)
  refine bodyPost_ret (results_cell_tmp' rfl _ _ w.heap.size 34 #[.int .u8 8, .string ⟨#[]⟩, .int .i64 0, .int .i64 0] _ rfl (by exact heap_alloc_new w _) Try.underlying34 rfl size34 (.int .i64 0) rfl) rfl ⟨rfl, (Upd.refl _ w).alloc _⟩

theorem Rword_false (s : ByteArray) (hs : Small s) (h0 : (s.toList == [46]) = false) (h1 : (s.toList == [35, 116]) = false) (h2 : (s.toList == [35, 102]) = true) (w : World) :
    Calls Try.prog 25 #[.string s] w fun e w' => e = .returned (.tuple #[tokV 7 ⟨#[]⟩ 0 0, .int .i64 0]) ∧ New w w' := by
  have hsz := hs.le
  go_enter Try.func25, Try.ntmps25
  go_wp2_with (fail)
  refine bodyPost_ret (results_cell_tmp' rfl _ _ w.heap.size 34 #[.int .u8 7, .string ⟨#[]⟩, .int .i64 0, .int .i64 0] _ rfl (by exact heap_alloc_new w _) Try.underlying34 rfl size34 (.int .i64 0) rfl) rfl ⟨rfl, (Upd.refl _ w).alloc _⟩

theorem Rword_num_p (s r : ByteArray) (hs : Small s) (hrs : Small r) (h0 : (s.toList == [46]) = false) (h1 : (s.toList == [35, 116]) = false) (h2 : (s.toList == [35, 102]) = false) (hz : 0 < s.size) (c0 : Int) (hc0 : at' s 0 = c0) (h45 : (c0 == 45) = false) (hr : s = r) (hd : digB r = true) (n : Int) (hp : refNum r false = .tuple #[.int .i64 n, .bool true]) (w : World) :
    Calls Try.prog 25 #[.string s] w fun e w' => e = .returned (.tuple #[tokV 5 ⟨#[]⟩ n 0, .int .i64 0]) ∧ New w w' := by
  have hsz := hs.le
  have hrz := hrs.le
  rw [← at_eq s 0 hz] at hc0
  have hz1 : (1 : Int) ≤ s.size := by omega
  have hz0 := allK_zero r
  subst hr
  have hnm0 := refnumber_calls s hs hd false
  rw [hp] at hnm0
  have hnm := Lib.hid hnm0
  clear hnm0 hp
  go_enter Try.func25, Try.ntmps25
  go_wp2_with (fail)
  go_loop [6, 7] (fun a i => ∃ k : Nat, k ≤ s.size ∧ i = .int .i64 k ∧ a = .bool (allK s k)) (fun a i => s.size - (intOf i).toNat)
  case atStart => exact ⟨0, Nat.zero_le _, rfl, by first | (rw [hz0]; done) | (rw [hz0]; refine congrArg Value.bool ?_; symm; exact decide_eq_true (by omega)) | (rw [hz0]; refine congrArg Value.bool ?_; rw [Bool.eq_iff_iff]; simp only [decide_eq_true_eq]; omega)⟩
  case round =>
    obtain ⟨k, hk, rfl, rfl⟩ := hrel
    by_cases hlt : k < s.size
    · have hv := at_eq s k hlt
      have hsu := Lib.hid (allK_succ s k)
      generalize hc : at' s k = c at *
      have hc' := Lib.hid hc
      clear hc
      cases hal : allK s k
      · go_wp2_with (go_at_call 51; refine (digit_calls _ _).mono ?_; rintro e w1 ⟨rfl, rfl⟩)
        go_round
        case rel => exact ⟨k + 1, by omega, by go_num, by rw [hsu.out, hal]; rfl⟩
        case measure => simp [intOf]; omega
      · go_wp2_with (go_at_call 51; refine (digit_calls _ _).mono ?_; rintro e w1 ⟨rfl, rfl⟩)
        go_round
        case rel => exact ⟨k + 1, by omega, by go_num, by rw [hsu.out, hal]; rfl⟩
        case measure => simp [intOf]; omega
    · have hkn : k = s.size := by omega
      subst hkn
      have hal : allK s s.size = true := hd
      rw [hal]
      go_wp2_with (first | (go_at_call 51; refine (digit_calls _ _).mono ?_; rintro e w1 ⟨rfl, rfl⟩) | (go_at_call 52; refine (hnm.out _).mono ?_; rintro e w1 ⟨rfl, rfl⟩))
      refine bodyPost_ret (results_cell_tmp' rfl _ _ w.heap.size 34 #[.int .u8 5, .string ⟨#[]⟩, .int .i64 n, .int .i64 0] _ rfl (by exact heap_alloc_new w _) Try.underlying34 rfl size34 (.int .i64 0) rfl) rfl ⟨rfl, (Upd.refl _ w).alloc _⟩

theorem Rword_big_p (s r : ByteArray) (hs : Small s) (hrs : Small r) (h0 : (s.toList == [46]) = false) (h1 : (s.toList == [35, 116]) = false) (h2 : (s.toList == [35, 102]) = false) (hz : 0 < s.size) (c0 : Int) (hc0 : at' s 0 = c0) (h45 : (c0 == 45) = false) (hr : s = r) (hd : digB r = true) (n : Int) (hp : refNum r false = .tuple #[.int .i64 n, .bool false]) (w : World) :
    Calls Try.prog 25 #[.string s] w fun e w' => e = .returned (.tuple #[tokV 0 ⟨#[]⟩ 0 0, .int .i64 52]) ∧ New w w' := by
  have hsz := hs.le
  have hrz := hrs.le
  rw [← at_eq s 0 hz] at hc0
  have hz1 : (1 : Int) ≤ s.size := by omega
  have hz0 := allK_zero r
  subst hr
  have hnm0 := refnumber_calls s hs hd false
  rw [hp] at hnm0
  have hnm := Lib.hid hnm0
  clear hnm0 hp
  go_enter Try.func25, Try.ntmps25
  go_wp2_with (fail)
  go_loop [6, 7] (fun a i => ∃ k : Nat, k ≤ s.size ∧ i = .int .i64 k ∧ a = .bool (allK s k)) (fun a i => s.size - (intOf i).toNat)
  case atStart => exact ⟨0, Nat.zero_le _, rfl, by first | (rw [hz0]; done) | (rw [hz0]; refine congrArg Value.bool ?_; symm; exact decide_eq_true (by omega)) | (rw [hz0]; refine congrArg Value.bool ?_; rw [Bool.eq_iff_iff]; simp only [decide_eq_true_eq]; omega)⟩
  case round =>
    obtain ⟨k, hk, rfl, rfl⟩ := hrel
    by_cases hlt : k < s.size
    · have hv := at_eq s k hlt
      have hsu := Lib.hid (allK_succ s k)
      generalize hc : at' s k = c at *
      have hc' := Lib.hid hc
      clear hc
      cases hal : allK s k
      · go_wp2_with (go_at_call 51; refine (digit_calls _ _).mono ?_; rintro e w1 ⟨rfl, rfl⟩)
        go_round
        case rel => exact ⟨k + 1, by omega, by go_num, by rw [hsu.out, hal]; rfl⟩
        case measure => simp [intOf]; omega
      · go_wp2_with (go_at_call 51; refine (digit_calls _ _).mono ?_; rintro e w1 ⟨rfl, rfl⟩)
        go_round
        case rel => exact ⟨k + 1, by omega, by go_num, by rw [hsu.out, hal]; rfl⟩
        case measure => simp [intOf]; omega
    · have hkn : k = s.size := by omega
      subst hkn
      have hal : allK s s.size = true := hd
      rw [hal]
      go_wp2_with (first | (go_at_call 51; refine (digit_calls _ _).mono ?_; rintro e w1 ⟨rfl, rfl⟩) | (go_at_call 52; refine (hnm.out _).mono ?_; rintro e w1 ⟨rfl, rfl⟩))
      refine bodyPost_ret (results_cell_tmp' rfl _ _ w.heap.size 34 #[.int .u8 0, .string ⟨#[]⟩, .int .i64 0, .int .i64 0] _ rfl (by exact heap_alloc_new w _) Try.underlying34 rfl size34 (.int .i64 52) rfl) rfl ⟨rfl, (Upd.refl _ w).alloc _⟩

theorem Rword_badB_p (s r : ByteArray) (hs : Small s) (hrs : Small r) (h0 : (s.toList == [46]) = false) (h1 : (s.toList == [35, 116]) = false) (h2 : (s.toList == [35, 102]) = false) (hz : 0 < s.size) (c0 : Int) (hc0 : at' s 0 = c0) (h45 : (c0 == 45) = false) (hr : s = r) (hd : digB r = false) (hdi : isDI c0 = true) (w : World) :
    Calls Try.prog 25 #[.string s] w fun e w' => e = .returned (.tuple #[tokV 0 ⟨#[]⟩ 0 0, .int .i64 51]) ∧ New w w' := by
  have hsz := hs.le
  have hrz := hrs.le
  rw [← at_eq s 0 hz] at hc0
  have hz1 : (1 : Int) ≤ s.size := by omega
  have hz0 := allK_zero r
  subst hr
  go_enter Try.func25, Try.ntmps25
  go_wp2_with (fail)
  go_loop [6, 7] (fun a i => ∃ k : Nat, k ≤ s.size ∧ i = .int .i64 k ∧ a = .bool (allK s k)) (fun a i => s.size - (intOf i).toNat)
  case atStart => exact ⟨0, Nat.zero_le _, rfl, by first | (rw [hz0]; done) | (rw [hz0]; refine congrArg Value.bool ?_; symm; exact decide_eq_true (by omega)) | (rw [hz0]; refine congrArg Value.bool ?_; rw [Bool.eq_iff_iff]; simp only [decide_eq_true_eq]; omega)⟩
  case round =>
    obtain ⟨k, hk, rfl, rfl⟩ := hrel
    by_cases hlt : k < s.size
    · have hv := at_eq s k hlt
      have hsu := Lib.hid (allK_succ s k)
      generalize hc : at' s k = c at *
      have hc' := Lib.hid hc
      clear hc
      cases hal : allK s k
      · go_wp2_with (go_at_call 51; refine (digit_calls _ _).mono ?_; rintro e w1 ⟨rfl, rfl⟩)
        go_round
        case rel => exact ⟨k + 1, by omega, by go_num, by rw [hsu.out, hal]; rfl⟩
        case measure => simp [intOf]; omega
      · go_wp2_with (go_at_call 51; refine (digit_calls _ _).mono ?_; rintro e w1 ⟨rfl, rfl⟩)
        go_round
        case rel => exact ⟨k + 1, by omega, by go_num, by rw [hsu.out, hal]; rfl⟩
        case measure => simp [intOf]; omega
    · have hkn : k = s.size := by omega
      subst hkn
      have hal : allK s s.size = false := hd
      rw [hal]
      go_wp2_with (go_at_call 51; refine (digit_calls _ _).mono ?_; rintro e w1 ⟨rfl, rfl⟩)
      refine bodyPost_ret (results_cell_tmp' rfl _ _ w.heap.size 34 #[.int .u8 0, .string ⟨#[]⟩, .int .i64 0, .int .i64 0] _ rfl (by exact heap_alloc_new w _) Try.underlying34 rfl size34 (.int .i64 51) rfl) rfl ⟨rfl, (Upd.refl _ w).alloc _⟩

theorem Rword_badA_p (s r : ByteArray) (hs : Small s) (hrs : Small r) (h0 : (s.toList == [46]) = false) (h1 : (s.toList == [35, 116]) = false) (h2 : (s.toList == [35, 102]) = false) (hz : 0 < s.size) (c0 : Int) (hc0 : at' s 0 = c0) (h45 : (c0 == 45) = false) (hr : s = r) (hd : digB r = false) (hdi : isDI c0 = false) (h35 : (c0 == 35) = true) (w : World) :
    Calls Try.prog 25 #[.string s] w fun e w' => e = .returned (.tuple #[tokV 0 ⟨#[]⟩ 0 0, .int .i64 51]) ∧ New w w' := by
  have hsz := hs.le
  have hrz := hrs.le
  rw [← at_eq s 0 hz] at hc0
  have hz1 : (1 : Int) ≤ s.size := by omega
  have hz0 := allK_zero r
  subst hr
  go_enter Try.func25, Try.ntmps25
  go_wp2_with (fail)
  go_loop [6, 7] (fun a i => ∃ k : Nat, k ≤ s.size ∧ i = .int .i64 k ∧ a = .bool (allK s k)) (fun a i => s.size - (intOf i).toNat)
  case atStart => exact ⟨0, Nat.zero_le _, rfl, by first | (rw [hz0]; done) | (rw [hz0]; refine congrArg Value.bool ?_; symm; exact decide_eq_true (by omega)) | (rw [hz0]; refine congrArg Value.bool ?_; rw [Bool.eq_iff_iff]; simp only [decide_eq_true_eq]; omega)⟩
  case round =>
    obtain ⟨k, hk, rfl, rfl⟩ := hrel
    by_cases hlt : k < s.size
    · have hv := at_eq s k hlt
      have hsu := Lib.hid (allK_succ s k)
      generalize hc : at' s k = c at *
      have hc' := Lib.hid hc
      clear hc
      cases hal : allK s k
      · go_wp2_with (go_at_call 51; refine (digit_calls _ _).mono ?_; rintro e w1 ⟨rfl, rfl⟩)
        go_round
        case rel => exact ⟨k + 1, by omega, by go_num, by rw [hsu.out, hal]; rfl⟩
        case measure => simp [intOf]; omega
      · go_wp2_with (go_at_call 51; refine (digit_calls _ _).mono ?_; rintro e w1 ⟨rfl, rfl⟩)
        go_round
        case rel => exact ⟨k + 1, by omega, by go_num, by rw [hsu.out, hal]; rfl⟩
        case measure => simp [intOf]; omega
    · have hkn : k = s.size := by omega
      subst hkn
      have hal : allK s s.size = false := hd
      rw [hal]
      go_wp2_with (go_at_call 51; refine (digit_calls _ _).mono ?_; rintro e w1 ⟨rfl, rfl⟩)
      refine bodyPost_ret (results_cell_tmp' rfl _ _ w.heap.size 34 #[.int .u8 0, .string ⟨#[]⟩, .int .i64 0, .int .i64 0] _ rfl (by exact heap_alloc_new w _) Try.underlying34 rfl size34 (.int .i64 51) rfl) rfl ⟨rfl, (Upd.refl _ w).alloc _⟩

theorem Rword_badC_p (s r : ByteArray) (hs : Small s) (hrs : Small r) (h0 : (s.toList == [46]) = false) (h1 : (s.toList == [35, 116]) = false) (h2 : (s.toList == [35, 102]) = false) (hz : 0 < s.size) (c0 : Int) (hc0 : at' s 0 = c0) (h45 : (c0 == 45) = false) (hr : s = r) (hd : digB r = false) (hdi : isDI c0 = false) (h35 : (c0 == 35) = false) (hl : decide ((32 : Int) < s.size) = true) (w : World) :
    Calls Try.prog 25 #[.string s] w fun e w' => e = .returned (.tuple #[tokV 0 ⟨#[]⟩ 0 0, .int .i64 51]) ∧ New w w' := by
  have hsz := hs.le
  have hrz := hrs.le
  rw [← at_eq s 0 hz] at hc0
  have hz1 : (1 : Int) ≤ s.size := by omega
  have hz0 := allK_zero r
  subst hr
  go_enter Try.func25, Try.ntmps25
  go_wp2_with (fail)
  go_loop [6, 7] (fun a i => ∃ k : Nat, k ≤ s.size ∧ i = .int .i64 k ∧ a = .bool (allK s k)) (fun a i => s.size - (intOf i).toNat)
  case atStart => exact ⟨0, Nat.zero_le _, rfl, by first | (rw [hz0]; done) | (rw [hz0]; refine congrArg Value.bool ?_; symm; exact decide_eq_true (by omega)) | (rw [hz0]; refine congrArg Value.bool ?_; rw [Bool.eq_iff_iff]; simp only [decide_eq_true_eq]; omega)⟩
  case round =>
    obtain ⟨k, hk, rfl, rfl⟩ := hrel
    by_cases hlt : k < s.size
    · have hv := at_eq s k hlt
      have hsu := Lib.hid (allK_succ s k)
      generalize hc : at' s k = c at *
      have hc' := Lib.hid hc
      clear hc
      cases hal : allK s k
      · go_wp2_with (go_at_call 51; refine (digit_calls _ _).mono ?_; rintro e w1 ⟨rfl, rfl⟩)
        go_round
        case rel => exact ⟨k + 1, by omega, by go_num, by rw [hsu.out, hal]; rfl⟩
        case measure => simp [intOf]; omega
      · go_wp2_with (go_at_call 51; refine (digit_calls _ _).mono ?_; rintro e w1 ⟨rfl, rfl⟩)
        go_round
        case rel => exact ⟨k + 1, by omega, by go_num, by rw [hsu.out, hal]; rfl⟩
        case measure => simp [intOf]; omega
    · have hkn : k = s.size := by omega
      subst hkn
      have hal : allK s s.size = false := hd
      rw [hal]
      go_wp2_with (go_at_call 51; refine (digit_calls _ _).mono ?_; rintro e w1 ⟨rfl, rfl⟩)
      refine bodyPost_ret (results_cell_tmp' rfl _ _ w.heap.size 34 #[.int .u8 0, .string ⟨#[]⟩, .int .i64 0, .int .i64 0] _ rfl (by exact heap_alloc_new w _) Try.underlying34 rfl size34 (.int .i64 51) rfl) rfl ⟨rfl, (Upd.refl _ w).alloc _⟩

theorem Rword_sym_p (s r : ByteArray) (hs : Small s) (hrs : Small r) (h0 : (s.toList == [46]) = false) (h1 : (s.toList == [35, 116]) = false) (h2 : (s.toList == [35, 102]) = false) (hz : 0 < s.size) (c0 : Int) (hc0 : at' s 0 = c0) (h45 : (c0 == 45) = false) (hr : s = r) (hd : digB r = false) (hdi : isDI c0 = false) (h35 : (c0 == 35) = false) (hl : decide ((32 : Int) < s.size) = false) (w : World) :
    Calls Try.prog 25 #[.string s] w fun e w' => e = .returned (.tuple #[tokV 6 s 0 0, .int .i64 0]) ∧ New w w' := by
  have hsz := hs.le
  have hrz := hrs.le
  rw [← at_eq s 0 hz] at hc0
  have hz1 : (1 : Int) ≤ s.size := by omega
  have hz0 := allK_zero r
  subst hr
  go_enter Try.func25, Try.ntmps25
  go_wp2_with (fail)
  go_loop [6, 7] (fun a i => ∃ k : Nat, k ≤ s.size ∧ i = .int .i64 k ∧ a = .bool (allK s k)) (fun a i => s.size - (intOf i).toNat)
  case atStart => exact ⟨0, Nat.zero_le _, rfl, by first | (rw [hz0]; done) | (rw [hz0]; refine congrArg Value.bool ?_; symm; exact decide_eq_true (by omega)) | (rw [hz0]; refine congrArg Value.bool ?_; rw [Bool.eq_iff_iff]; simp only [decide_eq_true_eq]; omega)⟩
  case round =>
    obtain ⟨k, hk, rfl, rfl⟩ := hrel
    by_cases hlt : k < s.size
    · have hv := at_eq s k hlt
      have hsu := Lib.hid (allK_succ s k)
      generalize hc : at' s k = c at *
      have hc' := Lib.hid hc
      clear hc
      cases hal : allK s k
      · go_wp2_with (go_at_call 51; refine (digit_calls _ _).mono ?_; rintro e w1 ⟨rfl, rfl⟩)
        go_round
        case rel => exact ⟨k + 1, by omega, by go_num, by rw [hsu.out, hal]; rfl⟩
        case measure => simp [intOf]; omega
      · go_wp2_with (go_at_call 51; refine (digit_calls _ _).mono ?_; rintro e w1 ⟨rfl, rfl⟩)
        go_round
        case rel => exact ⟨k + 1, by omega, by go_num, by rw [hsu.out, hal]; rfl⟩
        case measure => simp [intOf]; omega
    · have hkn : k = s.size := by omega
      subst hkn
      have hal : allK s s.size = false := hd
      rw [hal]
      go_wp2_with (go_at_call 51; refine (digit_calls _ _).mono ?_; rintro e w1 ⟨rfl, rfl⟩)
      refine bodyPost_ret (results_cell_tmp' rfl _ _ w.heap.size 34 #[.int .u8 6, .string s, .int .i64 0, .int .i64 0] _ rfl (by exact heap_alloc_new w _) Try.underlying34 rfl size34 (.int .i64 0) rfl) rfl ⟨rfl, (Upd.refl _ w).alloc _⟩

theorem Rword_num_n (s r : ByteArray) (hs : Small s) (hrs : Small r) (h0 : (s.toList == [46]) = false) (h1 : (s.toList == [35, 116]) = false) (h2 : (s.toList == [35, 102]) = false) (hz : 0 < s.size) (c0 : Int) (hc0 : at' s 0 = c0) (h45 : c0 = 45) (hr : s.extract 1 s.size = r) (hd : digB r = true) (n : Int) (hp : refNum r true = .tuple #[.int .i64 n, .bool true]) (w : World) :
    Calls Try.prog 25 #[.string s] w fun e w' => e = .returned (.tuple #[tokV 5 ⟨#[]⟩ n 0, .int .i64 0]) ∧ New w w' := by
  have hsz := hs.le
  have hrz := hrs.le
  rw [← at_eq s 0 hz] at hc0
  have hz1 : (1 : Int) ≤ s.size := by omega
  have hz0 := allK_zero r
  subst h45
  have hnm0 := refnumber_calls r hrs hd true
  rw [hp] at hnm0
  have hnm := Lib.hid hnm0
  clear hnm0 hp
  go_enter Try.func25, Try.ntmps25
  go_wp2_with (fail)
  go_loop [6, 7] (fun a i => ∃ k : Nat, k ≤ r.size ∧ i = .int .i64 k ∧ a = .bool (allK r k)) (fun a i => r.size - (intOf i).toNat)
  case atStart => exact ⟨0, Nat.zero_le _, rfl, by first | (rw [hz0]; done) | (rw [hz0]; refine congrArg Value.bool ?_; symm; exact decide_eq_true (by omega)) | (rw [hz0]; refine congrArg Value.bool ?_; rw [Bool.eq_iff_iff]; simp only [decide_eq_true_eq]; omega)⟩
  case round =>
    obtain ⟨k, hk, rfl, rfl⟩ := hrel
    by_cases hlt : k < r.size
    · have hv := at_eq r k hlt
      have hsu := Lib.hid (allK_succ r k)
      generalize hc : at' r k = c at *
      have hc' := Lib.hid hc
      clear hc
      cases hal : allK r k
      · go_wp2_with (go_at_call 51; refine (digit_calls _ _).mono ?_; rintro e w1 ⟨rfl, rfl⟩)
        go_round
        case rel => exact ⟨k + 1, by omega, by go_num, by rw [hsu.out, hal]; rfl⟩
        case measure => simp [intOf]; omega
      · go_wp2_with (go_at_call 51; refine (digit_calls _ _).mono ?_; rintro e w1 ⟨rfl, rfl⟩)
        go_round
        case rel => exact ⟨k + 1, by omega, by go_num, by rw [hsu.out, hal]; rfl⟩
        case measure => simp [intOf]; omega
    · have hkn : k = r.size := by omega
      subst hkn
      have hal : allK r r.size = true := hd
      rw [hal]
      go_wp2_with (first | (go_at_call 51; refine (digit_calls _ _).mono ?_; rintro e w1 ⟨rfl, rfl⟩) | (go_at_call 52; refine (hnm.out _).mono ?_; rintro e w1 ⟨rfl, rfl⟩))
      refine bodyPost_ret (results_cell_tmp' rfl _ _ w.heap.size 34 #[.int .u8 5, .string ⟨#[]⟩, .int .i64 n, .int .i64 0] _ rfl (by exact heap_alloc_new w _) Try.underlying34 rfl size34 (.int .i64 0) rfl) rfl ⟨rfl, (Upd.refl _ w).alloc _⟩

theorem Rword_big_n (s r : ByteArray) (hs : Small s) (hrs : Small r) (h0 : (s.toList == [46]) = false) (h1 : (s.toList == [35, 116]) = false) (h2 : (s.toList == [35, 102]) = false) (hz : 0 < s.size) (c0 : Int) (hc0 : at' s 0 = c0) (h45 : c0 = 45) (hr : s.extract 1 s.size = r) (hd : digB r = true) (n : Int) (hp : refNum r true = .tuple #[.int .i64 n, .bool false]) (w : World) :
    Calls Try.prog 25 #[.string s] w fun e w' => e = .returned (.tuple #[tokV 0 ⟨#[]⟩ 0 0, .int .i64 52]) ∧ New w w' := by
  have hsz := hs.le
  have hrz := hrs.le
  rw [← at_eq s 0 hz] at hc0
  have hz1 : (1 : Int) ≤ s.size := by omega
  have hz0 := allK_zero r
  subst h45
  have hnm0 := refnumber_calls r hrs hd true
  rw [hp] at hnm0
  have hnm := Lib.hid hnm0
  clear hnm0 hp
  go_enter Try.func25, Try.ntmps25
  go_wp2_with (fail)
  go_loop [6, 7] (fun a i => ∃ k : Nat, k ≤ r.size ∧ i = .int .i64 k ∧ a = .bool (allK r k)) (fun a i => r.size - (intOf i).toNat)
  case atStart => exact ⟨0, Nat.zero_le _, rfl, by first | (rw [hz0]; done) | (rw [hz0]; refine congrArg Value.bool ?_; symm; exact decide_eq_true (by omega)) | (rw [hz0]; refine congrArg Value.bool ?_; rw [Bool.eq_iff_iff]; simp only [decide_eq_true_eq]; omega)⟩
  case round =>
    obtain ⟨k, hk, rfl, rfl⟩ := hrel
    by_cases hlt : k < r.size
    · have hv := at_eq r k hlt
      have hsu := Lib.hid (allK_succ r k)
      generalize hc : at' r k = c at *
      have hc' := Lib.hid hc
      clear hc
      cases hal : allK r k
      · go_wp2_with (go_at_call 51; refine (digit_calls _ _).mono ?_; rintro e w1 ⟨rfl, rfl⟩)
        go_round
        case rel => exact ⟨k + 1, by omega, by go_num, by rw [hsu.out, hal]; rfl⟩
        case measure => simp [intOf]; omega
      · go_wp2_with (go_at_call 51; refine (digit_calls _ _).mono ?_; rintro e w1 ⟨rfl, rfl⟩)
        go_round
        case rel => exact ⟨k + 1, by omega, by go_num, by rw [hsu.out, hal]; rfl⟩
        case measure => simp [intOf]; omega
    · have hkn : k = r.size := by omega
      subst hkn
      have hal : allK r r.size = true := hd
      rw [hal]
      go_wp2_with (first | (go_at_call 51; refine (digit_calls _ _).mono ?_; rintro e w1 ⟨rfl, rfl⟩) | (go_at_call 52; refine (hnm.out _).mono ?_; rintro e w1 ⟨rfl, rfl⟩))
      refine bodyPost_ret (results_cell_tmp' rfl _ _ w.heap.size 34 #[.int .u8 0, .string ⟨#[]⟩, .int .i64 0, .int .i64 0] _ rfl (by exact heap_alloc_new w _) Try.underlying34 rfl size34 (.int .i64 52) rfl) rfl ⟨rfl, (Upd.refl _ w).alloc _⟩

theorem Rword_badB_n (s r : ByteArray) (hs : Small s) (hrs : Small r) (h0 : (s.toList == [46]) = false) (h1 : (s.toList == [35, 116]) = false) (h2 : (s.toList == [35, 102]) = false) (hz : 0 < s.size) (c0 : Int) (hc0 : at' s 0 = c0) (h45 : c0 = 45) (hr : s.extract 1 s.size = r) (hd : digB r = false) (h1s : decide ((1 : Int) < s.size) = true) (hsz1 : (1 : Int) < s.size) (c1 : Int) (hc1 : at' s 1 = c1) (hdi : isDI c1 = true) (w : World) :
    Calls Try.prog 25 #[.string s] w fun e w' => e = .returned (.tuple #[tokV 0 ⟨#[]⟩ 0 0, .int .i64 51]) ∧ New w w' := by
  have hsz := hs.le
  have hrz := hrs.le
  rw [← at_eq s 0 hz] at hc0
  have hz1 : (1 : Int) ≤ s.size := by omega
  have hz0 := allK_zero r
  subst h45
  have hs1 : 1 < s.size := by omega
  rw [← at_eq s 1 hs1] at hc1
  have hd45 : isDI 45 = false := by decide
  go_enter Try.func25, Try.ntmps25
  go_wp2_with (fail)
  go_loop [6, 7] (fun a i => ∃ k : Nat, k ≤ r.size ∧ i = .int .i64 k ∧ a = .bool (allK r k)) (fun a i => r.size - (intOf i).toNat)
  case atStart => exact ⟨0, Nat.zero_le _, rfl, by first | (rw [hz0]; done) | (rw [hz0]; refine congrArg Value.bool ?_; symm; exact decide_eq_true (by omega)) | (rw [hz0]; refine congrArg Value.bool ?_; rw [Bool.eq_iff_iff]; simp only [decide_eq_true_eq]; omega)⟩
  case round =>
    obtain ⟨k, hk, rfl, rfl⟩ := hrel
    by_cases hlt : k < r.size
    · have hv := at_eq r k hlt
      have hsu := Lib.hid (allK_succ r k)
      generalize hc : at' r k = c at *
      have hc' := Lib.hid hc
      clear hc
      cases hal : allK r k
      · go_wp2_with (go_at_call 51; refine (digit_calls _ _).mono ?_; rintro e w1 ⟨rfl, rfl⟩)
        go_round
        case rel => exact ⟨k + 1, by omega, by go_num, by rw [hsu.out, hal]; rfl⟩
        case measure => simp [intOf]; omega
      · go_wp2_with (go_at_call 51; refine (digit_calls _ _).mono ?_; rintro e w1 ⟨rfl, rfl⟩)
        go_round
        case rel => exact ⟨k + 1, by omega, by go_num, by rw [hsu.out, hal]; rfl⟩
        case measure => simp [intOf]; omega
    · have hkn : k = r.size := by omega
      subst hkn
      have hal : allK r r.size = false := hd
      rw [hal]
      go_wp2_with (go_at_call 51; refine (digit_calls _ _).mono ?_; rintro e w1 ⟨rfl, rfl⟩)
      refine bodyPost_ret (results_cell_tmp' rfl _ _ w.heap.size 34 #[.int .u8 0, .string ⟨#[]⟩, .int .i64 0, .int .i64 0] _ rfl (by exact heap_alloc_new w _) Try.underlying34 rfl size34 (.int .i64 51) rfl) rfl ⟨rfl, (Upd.refl _ w).alloc _⟩

theorem Rword_badC_n (s r : ByteArray) (hs : Small s) (hrs : Small r) (h0 : (s.toList == [46]) = false) (h1 : (s.toList == [35, 116]) = false) (h2 : (s.toList == [35, 102]) = false) (hz : 0 < s.size) (c0 : Int) (hc0 : at' s 0 = c0) (h45 : c0 = 45) (hr : s.extract 1 s.size = r) (hd : digB r = false) (h1s : decide ((1 : Int) < s.size) = true) (hsz1 : (1 : Int) < s.size) (c1 : Int) (hc1 : at' s 1 = c1) (hdi : isDI c1 = false) (hl : decide ((32 : Int) < s.size) = true) (w : World) :
    Calls Try.prog 25 #[.string s] w fun e w' => e = .returned (.tuple #[tokV 0 ⟨#[]⟩ 0 0, .int .i64 51]) ∧ New w w' := by
  have hsz := hs.le
  have hrz := hrs.le
  rw [← at_eq s 0 hz] at hc0
  have hz1 : (1 : Int) ≤ s.size := by omega
  have hz0 := allK_zero r
  subst h45
  have hs1 : 1 < s.size := by omega
  rw [← at_eq s 1 hs1] at hc1
  have hd45 : isDI 45 = false := by decide
  go_enter Try.func25, Try.ntmps25
  go_wp2_with (fail)
  go_loop [6, 7] (fun a i => ∃ k : Nat, k ≤ r.size ∧ i = .int .i64 k ∧ a = .bool (allK r k)) (fun a i => r.size - (intOf i).toNat)
  case atStart => exact ⟨0, Nat.zero_le _, rfl, by first | (rw [hz0]; done) | (rw [hz0]; refine congrArg Value.bool ?_; symm; exact decide_eq_true (by omega)) | (rw [hz0]; refine congrArg Value.bool ?_; rw [Bool.eq_iff_iff]; simp only [decide_eq_true_eq]; omega)⟩
  case round =>
    obtain ⟨k, hk, rfl, rfl⟩ := hrel
    by_cases hlt : k < r.size
    · have hv := at_eq r k hlt
      have hsu := Lib.hid (allK_succ r k)
      generalize hc : at' r k = c at *
      have hc' := Lib.hid hc
      clear hc
      cases hal : allK r k
      · go_wp2_with (go_at_call 51; refine (digit_calls _ _).mono ?_; rintro e w1 ⟨rfl, rfl⟩)
        go_round
        case rel => exact ⟨k + 1, by omega, by go_num, by rw [hsu.out, hal]; rfl⟩
        case measure => simp [intOf]; omega
      · go_wp2_with (go_at_call 51; refine (digit_calls _ _).mono ?_; rintro e w1 ⟨rfl, rfl⟩)
        go_round
        case rel => exact ⟨k + 1, by omega, by go_num, by rw [hsu.out, hal]; rfl⟩
        case measure => simp [intOf]; omega
    · have hkn : k = r.size := by omega
      subst hkn
      have hal : allK r r.size = false := hd
      rw [hal]
      go_wp2_with (go_at_call 51; refine (digit_calls _ _).mono ?_; rintro e w1 ⟨rfl, rfl⟩)
      refine bodyPost_ret (results_cell_tmp' rfl _ _ w.heap.size 34 #[.int .u8 0, .string ⟨#[]⟩, .int .i64 0, .int .i64 0] _ rfl (by exact heap_alloc_new w _) Try.underlying34 rfl size34 (.int .i64 51) rfl) rfl ⟨rfl, (Upd.refl _ w).alloc _⟩

theorem Rword_sym_n (s r : ByteArray) (hs : Small s) (hrs : Small r) (h0 : (s.toList == [46]) = false) (h1 : (s.toList == [35, 116]) = false) (h2 : (s.toList == [35, 102]) = false) (hz : 0 < s.size) (c0 : Int) (hc0 : at' s 0 = c0) (h45 : c0 = 45) (hr : s.extract 1 s.size = r) (hd : digB r = false) (h1s : decide ((1 : Int) < s.size) = true) (hsz1 : (1 : Int) < s.size) (c1 : Int) (hc1 : at' s 1 = c1) (hdi : isDI c1 = false) (hl : decide ((32 : Int) < s.size) = false) (w : World) :
    Calls Try.prog 25 #[.string s] w fun e w' => e = .returned (.tuple #[tokV 6 s 0 0, .int .i64 0]) ∧ New w w' := by
  have hsz := hs.le
  have hrz := hrs.le
  rw [← at_eq s 0 hz] at hc0
  have hz1 : (1 : Int) ≤ s.size := by omega
  have hz0 := allK_zero r
  subst h45
  have hs1 : 1 < s.size := by omega
  rw [← at_eq s 1 hs1] at hc1
  have hd45 : isDI 45 = false := by decide
  go_enter Try.func25, Try.ntmps25
  go_wp2_with (fail)
  go_loop [6, 7] (fun a i => ∃ k : Nat, k ≤ r.size ∧ i = .int .i64 k ∧ a = .bool (allK r k)) (fun a i => r.size - (intOf i).toNat)
  case atStart => exact ⟨0, Nat.zero_le _, rfl, by first | (rw [hz0]; done) | (rw [hz0]; refine congrArg Value.bool ?_; symm; exact decide_eq_true (by omega)) | (rw [hz0]; refine congrArg Value.bool ?_; rw [Bool.eq_iff_iff]; simp only [decide_eq_true_eq]; omega)⟩
  case round =>
    obtain ⟨k, hk, rfl, rfl⟩ := hrel
    by_cases hlt : k < r.size
    · have hv := at_eq r k hlt
      have hsu := Lib.hid (allK_succ r k)
      generalize hc : at' r k = c at *
      have hc' := Lib.hid hc
      clear hc
      cases hal : allK r k
      · go_wp2_with (go_at_call 51; refine (digit_calls _ _).mono ?_; rintro e w1 ⟨rfl, rfl⟩)
        go_round
        case rel => exact ⟨k + 1, by omega, by go_num, by rw [hsu.out, hal]; rfl⟩
        case measure => simp [intOf]; omega
      · go_wp2_with (go_at_call 51; refine (digit_calls _ _).mono ?_; rintro e w1 ⟨rfl, rfl⟩)
        go_round
        case rel => exact ⟨k + 1, by omega, by go_num, by rw [hsu.out, hal]; rfl⟩
        case measure => simp [intOf]; omega
    · have hkn : k = r.size := by omega
      subst hkn
      have hal : allK r r.size = false := hd
      rw [hal]
      go_wp2_with (go_at_call 51; refine (digit_calls _ _).mono ?_; rintro e w1 ⟨rfl, rfl⟩)
      refine bodyPost_ret (results_cell_tmp' rfl _ _ w.heap.size 34 #[.int .u8 6, .string s, .int .i64 0, .int .i64 0] _ rfl (by exact heap_alloc_new w _) Try.underlying34 rfl size34 (.int .i64 0) rfl) rfl ⟨rfl, (Upd.refl _ w).alloc _⟩

theorem Rword_symD_n (s r : ByteArray) (hs : Small s) (hrs : Small r) (h0 : (s.toList == [46]) = false) (h1 : (s.toList == [35, 116]) = false) (h2 : (s.toList == [35, 102]) = false) (hz : 0 < s.size) (c0 : Int) (hc0 : at' s 0 = c0) (h45 : c0 = 45) (hr : s.extract 1 s.size = r) (hd : digB r = false) (h1s : decide ((1 : Int) < s.size) = false) (hl : decide ((32 : Int) < s.size) = false) (w : World) :
    Calls Try.prog 25 #[.string s] w fun e w' => e = .returned (.tuple #[tokV 6 s 0 0, .int .i64 0]) ∧ New w w' := by
  have hsz := hs.le
  have hrz := hrs.le
  rw [← at_eq s 0 hz] at hc0
  have hz1 : (1 : Int) ≤ s.size := by omega
  have hz0 := allK_zero r
  subst h45
  have hd45 : isDI 45 = false := by decide
  go_enter Try.func25, Try.ntmps25
  go_wp2_with (fail)
  go_loop [6, 7] (fun a i => ∃ k : Nat, k ≤ r.size ∧ i = .int .i64 k ∧ a = .bool (allK r k)) (fun a i => r.size - (intOf i).toNat)
  case atStart => exact ⟨0, Nat.zero_le _, rfl, by first | (rw [hz0]; done) | (rw [hz0]; refine congrArg Value.bool ?_; symm; exact decide_eq_true (by omega)) | (rw [hz0]; refine congrArg Value.bool ?_; rw [Bool.eq_iff_iff]; simp only [decide_eq_true_eq]; omega)⟩
  case round =>
    obtain ⟨k, hk, rfl, rfl⟩ := hrel
    by_cases hlt : k < r.size
    · have hv := at_eq r k hlt
      have hsu := Lib.hid (allK_succ r k)
      generalize hc : at' r k = c at *
      have hc' := Lib.hid hc
      clear hc
      cases hal : allK r k
      · go_wp2_with (go_at_call 51; refine (digit_calls _ _).mono ?_; rintro e w1 ⟨rfl, rfl⟩)
        go_round
        case rel => exact ⟨k + 1, by omega, by go_num, by rw [hsu.out, hal]; rfl⟩
        case measure => simp [intOf]; omega
      · go_wp2_with (go_at_call 51; refine (digit_calls _ _).mono ?_; rintro e w1 ⟨rfl, rfl⟩)
        go_round
        case rel => exact ⟨k + 1, by omega, by go_num, by rw [hsu.out, hal]; rfl⟩
        case measure => simp [intOf]; omega
    · have hkn : k = r.size := by omega
      subst hkn
      have hal : allK r r.size = false := hd
      rw [hal]
      go_wp2_with (go_at_call 51; refine (digit_calls _ _).mono ?_; rintro e w1 ⟨rfl, rfl⟩)
      refine bodyPost_ret (results_cell_tmp' rfl _ _ w.heap.size 34 #[.int .u8 6, .string s, .int .i64 0, .int .i64 0] _ rfl (by exact heap_alloc_new w _) Try.underlying34 rfl size34 (.int .i64 0) rfl) rfl ⟨rfl, (Upd.refl _ w).alloc _⟩


end Go.Proofs.Ytecoahdeafobkaa
