/- Read: digits. -/
import Derived.Test.YtnnjhafjcdjobaaRdN
namespace Go.Proofs.Ytnnjhafjcdjobaa
open Go.RowKit
set_option linter.unusedVariables false
set_option linter.unusedSimpArgs false

def natT (k : Nat) : ByteArray := if h : k < 10 then ⟨#[UInt8.ofNat (48 + k)]⟩ else natT (k / 10) ++ ⟨#[UInt8.ofNat (48 + k % 10)]⟩
termination_by k
decreasing_by omega
def numT (n : Int) : ByteArray := if n < 0 then ⟨#[45]⟩ ++ natT n.natAbs else natT n.natAbs
theorem natT_small {k : Nat} (h : k < 10) : natT k = ⟨#[UInt8.ofNat (48 + k)]⟩ := by rw [natT, dif_pos h]
theorem natT_more {k : Nat} (h : ¬ k < 10) : natT k = natT (k / 10) ++ ⟨#[UInt8.ofNat (48 + k % 10)]⟩ := by rw [natT, dif_neg h]
theorem natT_size : ∀ k, (natT k).size ≤ k + 1 := by
  intro k
  induction k using Nat.strongRecOn with
  | ind k ih =>
    by_cases h : k < 10
    · rw [natT_small h]; show 1 ≤ k + 1; omega
    · rw [natT_more h, ByteArray.size_append]
      have := ih (k / 10) (by omega)
      have h1 : (⟨#[UInt8.ofNat (48 + k % 10)]⟩ : ByteArray).size = 1 := rfl
      omega
theorem enc_digit {d : Nat} (h : d < 10) : Utf8.encode (48 + (d : Int)) = ⟨#[UInt8.ofNat (48 + d)]⟩ := by
  have h : d = 0 ∨ d = 1 ∨ d = 2 ∨ d = 3 ∨ d = 4 ∨ d = 5 ∨ d = 6 ∨ d = 7 ∨ d = 8 ∨ d = 9 := by omega
  rcases h with rfl | rfl | rfl | rfl | rfl | rfl | rfl | rfl | rfl | rfl <;> rfl
set_option maxRecDepth 20000 in
theorem digits_nat : ∀ k : Nat, k ≤ 576460752303423488 → ∀ w, Calls Try.prog 109 #[.int .i64 k] w fun e w' => e = .returned (.string (natT k)) ∧ w' = w := by
  intro k
  induction k using Nat.strongRecOn with
  | ind k ih =>
    intro hk w
    have k0 : ¬ (k : Int) < 0 := by omega
    have hm : (k : Int) % 10 = (k % 10 : Nat) := by omega
    have he := enc_digit (Nat.mod_lt k (by omega : 10 > 0))
    go_enter Try.func109, Try.ntmps109
    by_cases h10 : k < 10
    · have k1 : (k : Int) < 10 := by omega
      have hk10 : k % 10 = k := Nat.mod_eq_of_lt h10
      rw [hk10] at he
      have hh := Lib.hid he
      have hm2 := Lib.hid hm
      clear he hm
      go_wp2_with fail
      rw [hm2.out, hk10, hh.out, natT_small h10]
      go_ret
      exact ⟨rfl, rfl⟩
    · have k1 : ¬ (k : Int) < 10 := by omega
      have hq : ((k / 10 : Nat) : Int) = (k : Int) / 10 := by omega
      have hih := ih (k / 10) (by omega) (by omega)
      rw [hq] at hih
      replace hih := Lib.hid hih
      have hh := Lib.hid he
      have hm2 := Lib.hid hm
      have hwr : IntKind.i64.wrap ((k : Int) / 10) = (k : Int) / 10 := IntWalk.i64_in _ (by omega)
      have hw2 : wrap64 ((k : Int) / 10) = (k : Int) / 10 := by simpa [IntKind.wrap_i64, wrap64] using hwr
      have hsz : ¬ 9223372036854775807 < (natT (k / 10)).size + (Utf8.encode (48 + (k : Int) % 10)).size := by
        have h1 := natT_size (k / 10)
        rw [hm2.out, hh.out]
        have h2 : (⟨#[UInt8.ofNat (48 + k % 10)]⟩ : ByteArray).size = 1 := rfl
        omega
      clear he hm ih hq hk
      go_wp2_with fail
      refine (hih.out _).mono ?_
      rintro e w1 ⟨rfl, rfl⟩
      go_wp2_with fail
      rw [hm2.out, hh.out, natT_more h10]
      go_ret
      exact ⟨rfl, rfl⟩
set_option maxRecDepth 20000 in
theorem wdigits_calls (n : Int) (h : -576460752303423488 ≤ n) (h2 : n ≤ 576460752303423488) (w : World) : Calls Try.prog 109 #[.int .i64 n] w fun e w' => e = .returned (.string (numT n)) ∧ w' = w := by
  by_cases h0 : n < 0
  · have hd := digits_nat n.natAbs (by omega)
    have hn : (n.natAbs : Int) = -n := by omega
    rw [hn] at hd
    have hi : IntKind.i64.wrap (-n) = -n := IntWalk.i64_in _ (by omega)
    go_enter Try.func109, Try.ntmps109
    unfold numT
    rw [if_pos h0]
    replace hd := Lib.hid hd
    have hsz : ¬ 9223372036854775807 < 1 + (natT n.natAbs).size := by have := natT_size n.natAbs; omega
    clear h h2 hn
    go_wp2_with fail
    refine (hd.out _).mono ?_
    rintro e w1 ⟨rfl, rfl⟩
    go_wp2_with fail
    go_ret
    exact ⟨rfl, rfl⟩
  · have hd := digits_nat n.natAbs (by omega)
    have hn : (n.natAbs : Int) = n := by omega
    rw [hn] at hd
    unfold numT
    rw [if_neg h0]
    exact hd w
end Go.Proofs.Ytnnjhafjcdjobaa
