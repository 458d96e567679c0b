import Derived.Test.YtfoknglgnbceaaaShH
namespace Go.Proofs.Ytfoknglgnbceaaa
open Go.RowKit

/-- One call, and what lies behind it, where the outcome is known ahead. -/
theorem born_ok (b : Nat) (t : Int) (n : Nat) (S A : Nat → Bool) (inn : Bool) (w : World) (h : ShAt w b S A n inn) (hn : n < 8) (hk : bornOk n t = true) :
    Calls Try.prog 11 #[.pointer (some ⟨b, 0, none⟩), .int .i64 t] w fun e w' => e = .returned (.tuple #[.int .i64 (n + 1), .int .i64 0]) ∧ ShAt w' b (put S n (decide (t = 0) || scB S n inn t)) (put A n false) (n + 1) inn ∧ Upd (fun k => k = b) w w' :=
  (born_calls b t n S A inn w h).mono fun e w' hx => by
    rcases hx with ⟨hx, _⟩ | ⟨_, hx, _⟩ | ⟨_, _, h1, h2, h3⟩
    · omega
    · rw [hk] at hx; cases hx
    · exact ⟨h1, h2, h3⟩
theorem begin_ok (b : Nat) (n : Nat) (S A : Nat → Bool) (w : World) (h : ShAt w b S A n false) :
    Calls Try.prog 12 #[.pointer (some ⟨b, 0, none⟩)] w fun e w' => e = .returned (.int .i64 0) ∧ (∃ S' A', ShAt w' b S' A' n true ∧ ∀ i, i < n → S' i = false ∧ A' i = false) ∧ Upd (fun k => k = b) w w' :=
  (begin_calls b n S A false w h).mono fun e w' hx => by
    rcases hx with ⟨_, h1, h2, h3⟩ | ⟨hx, _⟩
    · exact ⟨h1, h2, h3⟩
    · cases hx
theorem ask_ok (b : Nat) (t : Int) (n : Nat) (S A : Nat → Bool) (inn : Bool) (w : World) (h : ShAt w b S A n inn) (hk : isB n t = true ∧ scB S n inn t = false ∧ asB A n inn t = false) :
    Calls Try.prog 16 #[.pointer (some ⟨b, 0, none⟩), .int .i64 t] w fun e w' => e = .returned (.int .i64 0) ∧ ShAt w' b S (put A (t.toNat - 1) true) n inn ∧ Upd (fun k => k = b) w w' :=
  (ask_calls b t n S A inn w h).mono fun e w' hx => by
    rcases hx with ⟨_, _, _, h1, h2, h3⟩ | ⟨hx, _⟩
    · exact ⟨h1, h2, h3⟩
    · exact absurd hk hx
theorem ask_bad (b : Nat) (t : Int) (n : Nat) (S A : Nat → Bool) (inn : Bool) (w : World) (h : ShAt w b S A n inn) (hk : ¬ (isB n t = true ∧ scB S n inn t = false ∧ asB A n inn t = false)) :
    Calls Try.prog 16 #[.pointer (some ⟨b, 0, none⟩), .int .i64 t] w fun e w' => e = .returned (.int .i64 140) ∧ w = w' :=
  (ask_calls b t n S A inn w h).mono fun e w' hx => by
    rcases hx with ⟨x, y, z, _⟩ | ⟨_, h1, h2⟩
    · exact absurd ⟨x, y, z⟩ hk
    · exact ⟨h1, h2⟩

theorem Upd.fresh {F : Nat → Prop} {w w1 w2 : World} {b : Nat} (h : Upd F w w1) (hb : w.heap.size ≤ b) (k : Upd (fun i => i = b) w1 w2) : Upd F w w2 :=
  h.trans' k (fun i hi e => by subst e; omega)

theorem works_calls (w : World) : Calls Try.prog 6 #[] w fun e w' => e = .returned (.bool true) ∧ Upd (fun _ => False) w w' := by
  go_enter Try.func6, Try.ntmps6
  go_wp2_with fail
  refine (new_calls _).mono ?_
  rintro e w1 ⟨rfl, hs, hu, -⟩
  go_wp2_with fail
  refine (born_ok _ _ _ _ _ _ _ hs (by decide) (by decide)).mono ?_
  rintro e w2 ⟨rfl, hs2, hu2⟩
  have hu := hu.fresh (Nat.le_refl _) hu2; clear hu2 hs
  go_wp2_with fail
  refine (born_ok _ _ _ _ _ _ _ hs2 (by decide) (by decide)).mono ?_
  rintro e w3 ⟨rfl, hs3, hu3⟩
  have hu := hu.fresh (Nat.le_refl _) hu3; clear hu3 hs2
  obtain ⟨S3, A3, hs3⟩ : ∃ S A, ShAt w3 w.heap.size S A (0 + 1 + 1) false := ⟨_, _, hs3⟩
  go_wp2_with fail
  refine (scanned_calls _ _ _ _ _ _ _ hs3).mono ?_
  rintro e w' ⟨rfl, rfl⟩
  rw [show scB S3 (0 + 1 + 1) false 1 = true from rfl]
  go_wp2_with fail
  refine (begin_ok _ _ _ _ _ hs3).mono ?_
  rintro e w4 ⟨rfl, ⟨S, A, hs4, hz⟩, hu4⟩
  have hu := hu.fresh (Nat.le_refl _) hu4; clear hu4 hs3
  have z0 := (hz 0 (by decide)).1
  have z1 := (hz 1 (by decide)).1
  have z2 := (hz 1 (by decide)).2
  clear hz
  have q1 : scB S (0 + 1 + 1) true 2 = false := by simp [scB, z1]
  have q2 : asB A (0 + 1 + 1) true 2 = false := by simp [asB, z2]
  have q3 : leftS S (0 + 1 + 1) true = 1 := by simp [leftS, leftFrom, scB, isB, z0]
  have Q1 := Lib.hid q1; have Q2 := Lib.hid q2; have Q3 := Lib.hid q3
  clear q1 q2 q3 z0 z1 z2
  go_wp2_with fail
  refine (scanned_calls _ _ _ _ _ _ _ hs4).mono ?_
  rintro e w' ⟨rfl, rfl⟩
  rw [Q1.out]
  go_wp2_with fail
  refine (ask_ok _ _ _ _ _ _ _ hs4 ⟨rfl, Q1.out, Q2.out⟩).mono ?_
  rintro e w5 ⟨rfl, hs5, hu5⟩
  have hu := hu.fresh (Nat.le_refl _) hu5; clear hu5 hs4
  go_wp2_with fail
  refine (ask_bad _ _ _ _ _ _ _ hs5 (by simp [asB, put, isB])).mono ?_
  rintro e w' ⟨rfl, rfl⟩
  go_wp2_with fail
  refine (left_calls _ _ _ _ _ _ hs5).mono ?_
  rintro e w' ⟨rfl, rfl⟩
  rw [Q3.out]
  go_wp2
  go_ret
  exact ⟨rfl, hu⟩
end Go.Proofs.Ytfoknglgnbceaaa
