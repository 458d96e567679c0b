import Derived.Test.YtfoknglgnbceaaaShB
import Derived.Deep.RegionWith
namespace Go.Proofs.Ytfoknglgnbceaaa
open Go.RowKit

theorem born_full (b : Nat) (t : Int) (S A : Nat → Bool) (inn : Bool) (w : World) (h : ShAt w b S A 8 inn) :
    Calls Try.prog 11 #[.pointer (some ⟨b, 0, none⟩), .int .i64 t] w fun e w' => e = .returned (.tuple #[.int .i64 0, .int .i64 2]) ∧ w = w' := by
  have h16 := h.many
  go_enter Try.func11, Try.ntmps11
  go_wp2
  go_ret2
  exact ⟨rfl, rfl⟩

def bornOk (n : Nat) (t : Int) : Bool := decide (t = 0) || isB n t
theorem born_no (b : Nat) (t : Int) (n : Nat) (S A : Nat → Bool) (inn : Bool) (w : World) (h : ShAt w b S A n inn) (hn : n < 8) (ht : bornOk n t = false) :
    Calls Try.prog 11 #[.pointer (some ⟨b, 0, none⟩), .int .i64 t] w fun e w' => e = .returned (.tuple #[.int .i64 0, .int .i64 140]) ∧ w = w' := by
  have h16 := h.many
  have h8 : ((n : Int) == 8) = false := by rw [beq_eq_false_iff_ne]; omega
  have ht' : t ≠ 0 ∧ isB n t = false := by simpa [bornOk] using ht
  obtain ⟨h0, h1⟩ := ht'
  have h0b : (t != 0) = true := by simpa using h0
  go_enter Try.func11, Try.ntmps11
  go_wp2_with (go_at_call 27; refine (is_calls b t n _ h16).mono ?_; rintro e w' ⟨rfl, rfl⟩)
  go_ret2
  exact ⟨rfl, rfl⟩

theorem born_root (b : Nat) (n : Nat) (S A : Nat → Bool) (inn : Bool) (w : World) (h : ShAt w b S A n inn) (hn : n < 8) :
    Calls Try.prog 11 #[.pointer (some ⟨b, 0, none⟩), .int .i64 0] w fun e w' => e = .returned (.tuple #[.int .i64 (n + 1), .int .i64 0]) ∧
      ShAt w' b (put S n true) (put A n false) (n + 1) inn ∧ Upd (fun k => k = b) w w' := by
  have h16 := h.many
  have h8 : ((n : Int) == 8) = false := by rw [beq_eq_false_iff_ne]; omega
  have hc0 := h.S n (by omega)
  have hf0 := h.fr (n * 2)
  have hc := h.A n (by omega)
  have hf := h.fr (n * 2 + 1)
  have hf16 := h.fr 16
  have hs := (h.setS n (by omega) true).setA n (by omega) false
  have hs16 := hs.many
  go_enter Try.func11, Try.ntmps11
  go_wp2
  go_region
  all_goals go_wp2
  all_goals go_ret2
  all_goals exact ⟨rfl, (hs.setN (n + 1) (by omega) _ (by simp)).drew, ((((Upd.refl _ _).set (by rfl) _).set (by rfl) _).set (by rfl) _).drew⟩

theorem born_by (b : Nat) (t : Int) (n : Nat) (S A : Nat → Bool) (inn : Bool) (w : World) (h : ShAt w b S A n inn) (hn : n < 8) (h1 : isB n t = true) :
    Calls Try.prog 11 #[.pointer (some ⟨b, 0, none⟩), .int .i64 t] w fun e w' => e = .returned (.tuple #[.int .i64 (n + 1), .int .i64 0]) ∧
      ShAt w' b (put S n (scB S n inn t)) (put A n false) (n + 1) inn ∧ Upd (fun k => k = b) w w' := by
  have h16 := h.many
  have h8 : ((n : Int) == 8) = false := by rw [beq_eq_false_iff_ne]; omega
  obtain ⟨hb1, hb2⟩ := isB_bounds h1
  have h0b : (t == 0) = false := by rw [beq_eq_false_iff_ne]; omega
  have h0c : (t != 0) = true := by rw [bne_iff_ne]; omega
  have hc0 := h.S n (by omega)
  have hf0 := h.fr (n * 2)
  have hc := h.A n (by omega)
  have hf := h.fr (n * 2 + 1)
  have hf16 := h.fr 16
  have hs := (h.setS n (by omega) (scB S n inn t)).setA n (by omega) false
  have hs16 := hs.many
  go_enter Try.func11, Try.ntmps11
  go_wp2_with (go_at_call 27; refine (is_calls b t n _ h16).mono ?_; rintro e w' ⟨rfl, rfl⟩)
  have hi0 : (n : Int) < 8 := by omega
  have hi1 : (0 : Int) ≤ n := by omega
  go_still_tail 16, (by kernel_rfl)
  still_call ((scanned_calls b t n S A inn _ h.drew).mono (fun e w' ⟨he, hw⟩ => ⟨he, hw.symm⟩))
  repeat still_step
  refine wpStill_nil ?_
  change wpList _ _ _ _ _ w.drew
  go_wp2
  go_ret2
  exact ⟨rfl, (hs.setN (n + 1) (by omega) _ (by simp)).drew, ((((Upd.refl _ _).set (by rfl) _).set (by rfl) _).set (by rfl) _).drew⟩
end Go.Proofs.Ytfoknglgnbceaaa
