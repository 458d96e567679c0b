import Derived.Test.YtfoknglgnbceaaaShF
namespace Go.Proofs.Ytfoknglgnbceaaa
open Go.RowKit

/-- The package's Shake at b and the document's at r (its slice v) tell the same. -/
structure Both (w : World) (b r : Nat) (v : Value) (S A S' A' : Nat → Bool) (n : Nat) (inn : Bool) : Prop where
  sh : ShAt w b S A n inn
  rf : RfAt w r v S' A' n inn
  eq : inn = true → ∀ i, i < n → S i = S' i ∧ A i = A' i
  ne : ¬ foot r v b

theorem sc_eq {S S' : Nat → Bool} {n : Nat} {inn : Bool} (h : inn = true → ∀ i, i < n → S i = S' i) (t : Int) : scB S n inn t = scB S' n inn t := by
  cases inn with
  | false => simp [scB]
  | true =>
    by_cases hi : isB n t = true
    · obtain ⟨h1, h2⟩ := isB_bounds hi
      simp [scB, hi, h rfl (t.toNat - 1) (by omega)]
    · have hi' : isB n t = false := by simpa using hi
      simp [scB, hi']
theorem as_eq {A A' : Nat → Bool} {n : Nat} {inn : Bool} (h : inn = true → ∀ i, i < n → A i = A' i) (t : Int) : asB A n inn t = asB A' n inn t := by
  cases inn with
  | false => simp [asB]
  | true =>
    by_cases hi : isB n t = true
    · obtain ⟨h1, h2⟩ := isB_bounds hi
      simp [asB, hi, h rfl (t.toNat - 1) (by omega)]
    · have hi' : isB n t = false := by simpa using hi
      simp [asB, hi']
theorem Both.sc {w : World} {b r : Nat} {v : Value} {S A S' A' : Nat → Bool} {n : Nat} {inn : Bool} (h : Both w b r v S A S' A' n inn) (t : Int) : scB S' n inn t = scB S n inn t := (sc_eq (fun e i hi => (h.eq e i hi).1) t).symm
theorem Both.as {w : World} {b r : Nat} {v : Value} {S A S' A' : Nat → Bool} {n : Nat} {inn : Bool} (h : Both w b r v S A S' A' n inn) (t : Int) : asB A' n inn t = asB A n inn t := (as_eq (fun e i hi => (h.eq e i hi).2) t).symm
theorem Both.lf {w : World} {b r : Nat} {v : Value} {S A S' A' : Nat → Bool} {n : Nat} {inn : Bool} (h : Both w b r v S A S' A' n inn) : leftS S' n inn = leftS S n inn := by
  unfold leftS
  rw [show (fun i : Nat => scB S' n inn ((i : Int) + 1)) = fun i : Nat => scB S n inn ((i : Int) + 1) from funext fun i => h.sc _]

/-- 'looks' is true, and nothing turns. -/
theorem looks_calls (b r : Nat) (t : Int) (v : Value) (S A S' A' : Nat → Bool) (n : Nat) (inn : Bool) (w : World) (h : Both w b r v S A S' A' n inn) :
    Calls Try.prog 9 #[.pointer (some ⟨b, 0, none⟩), .pointer (some ⟨r, 0, none⟩), .int .i64 t] w fun e w' => e = .returned (.bool true) ∧ w = w' := by
  have hsh := h.sh
  have hrf := h.rf
  have Hs := Lib.hid h.sc
  have Ha := Lib.hid h.as
  have Hl := Lib.hid h.lf
  go_enter Try.func9, Try.ntmps9
  go_wp2
  go_loop [7, 8, 9] (fun i _ _ => ∃ k : Int, -1 ≤ k ∧ k ≤ 11 ∧ i = .int .i64 k) (fun i _ _ => (11 - intOf i).toNat)
  case atStart => exact ⟨-1, by omega, by omega, rfl⟩
  case round =>
    obtain ⟨k, hk1, hk2, rfl⟩ := hrel
    by_cases hlt : k ≤ 10
    · go_wp2_with (first | (go_at_call 23; refine (asked_calls b k n S A inn _ hsh).mono ?_; rintro e w' ⟨rfl, rfl⟩) | (go_at_call 14; refine (scanned_calls b k n S A inn _ hsh).mono ?_; rintro e w' ⟨rfl, rfl⟩) | (go_at_call 24; refine (rasked_calls r k n v S' A' inn _ hrf).mono ?_; rintro e w' ⟨rfl, rfl⟩; rw [Ha.out]) | (go_at_call 25; refine (rscanned_calls r k n v S' A' inn _ hrf).mono ?_; rintro e w' ⟨rfl, rfl⟩; rw [Hs.out]))
      go_round
      case rel => exact ⟨k + 1, by omega, by omega, by go_num⟩
      case measure => simp [intOf]; omega
    · have hk : k = 11 := by omega
      subst hk
      go_wp2_with (first | (go_at_call 23; refine (asked_calls b t n S A inn _ hsh).mono ?_; rintro e w' ⟨rfl, rfl⟩) | (go_at_call 14; refine (scanned_calls b t n S A inn _ hsh).mono ?_; rintro e w' ⟨rfl, rfl⟩) | (go_at_call 13; refine (left_calls b n S A inn _ hsh).mono ?_; rintro e w' ⟨rfl, rfl⟩) | (go_at_call 24; refine (rasked_calls r t n v S' A' inn _ hrf).mono ?_; rintro e w' ⟨rfl, rfl⟩; rw [Ha.out]) | (go_at_call 25; refine (rscanned_calls r t n v S' A' inn _ hrf).mono ?_; rintro e w' ⟨rfl, rfl⟩; rw [Hs.out]) | (go_at_call 26; refine (rleft_calls r n v S' A' inn _ hrf).mono ?_; rintro e w' ⟨rfl, rfl⟩; rw [Hl.out]))
      go_ret
      exact ⟨rfl, rfl⟩

/-- What a call leaves. -/
def Does (b r : Nat) (v : Value) (w w' : World) : Prop :=
  ∃ v' S A S' A' n inn, Both w' b r v' S A S' A' n inn ∧ Upd (fun k => k = b ∨ foot r v k) w w' ∧ ∀ k, foot r v' k → foot r v k ∨ w.heap.size ≤ k

theorem Does.mk {b r : Nat} {v v' : Value} {w w' : World} {S A S' A' : Nat → Bool} {n : Nat} {inn : Bool} (hs : ShAt w' b S A n inn) (hr : RfAt w' r v' S' A' n inn) (he : inn = true → ∀ i, i < n → S i = S' i ∧ A i = A' i)
    (hne : ¬ foot r v b) (hb : b < w.heap.size) (hu : Upd (fun k => k = b ∨ foot r v k) w w') (hf : ∀ k, foot r v' k → foot r v k ∨ w.heap.size ≤ k) : Does b r v w w' :=
  ⟨v', S, A, S', A', n, inn, ⟨hs, hr, he, fun hx => by rcases hf _ hx with h | h; exact hne h; omega⟩, hu, hf⟩
end Go.Proofs.Ytfoknglgnbceaaa
