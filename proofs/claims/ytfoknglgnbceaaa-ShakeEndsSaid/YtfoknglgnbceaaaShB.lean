import Derived.Test.YtfoknglgnbceaaaSh
namespace Go.Proofs.Ytfoknglgnbceaaa
open Go.RowKit

theorem ask_calls (b : Nat) (t : Int) (n : Nat) (S A : Nat → Bool) (inn : Bool) (w : World) (h : ShAt w b S A n inn) :
    Calls Try.prog 16 #[.pointer (some ⟨b, 0, none⟩), .int .i64 t] w fun e w' =>
      (isB n t = true ∧ scB S n inn t = false ∧ asB A n inn t = false ∧ e = .returned (.int .i64 0) ∧ ShAt w' b S (put A (t.toNat - 1) true) n inn ∧ Upd (fun k => k = b) w w') ∨
      (¬ (isB n t = true ∧ scB S n inn t = false ∧ asB A n inn t = false) ∧ e = .returned (.int .i64 140) ∧ w = w') := by
  have h16 := h.many
  have h17 := h.inn
  have hle := h.le
  by_cases h1 : isB n t = true
  · obtain ⟨hb1, hb2⟩ := isB_bounds h1
    by_cases h2 : scB S n inn t = true
    · go_enter Try.func16, Try.ntmps16
      go_wp2_with (first | (go_at_call 27; refine (is_calls b t n _ h16).mono ?_; rintro e w' ⟨rfl, rfl⟩) | (go_at_call 14; refine (scanned_calls b t n S A inn _ h).mono ?_; rintro e w' ⟨rfl, rfl⟩))
      go_ret
      exact .inr ⟨by simp [h2], rfl, rfl⟩
    · have h2' : scB S n inn t = false := by simpa using h2
      by_cases h3 : asB A n inn t = true
      · go_enter Try.func16, Try.ntmps16
        go_wp2_with (first | (go_at_call 27; refine (is_calls b t n _ h16).mono ?_; rintro e w' ⟨rfl, rfl⟩) | (go_at_call 14; refine (scanned_calls b t n S A inn _ h).mono ?_; rintro e w' ⟨rfl, rfl⟩) | (go_at_call 23; refine (asked_calls b t n S A inn _ h).mono ?_; rintro e w' ⟨rfl, rfl⟩))
        go_ret
        exact .inr ⟨by simp [h3], rfl, rfl⟩
      · have h3' : asB A n inn t = false := by simpa using h3
        have hc := h.A (t.toNat - 1) (by omega)
        have hf := h.fr ((t.toNat - 1) * 2 + 1)
        go_enter Try.func16, Try.ntmps16
        go_wp2_with (first | (go_at_call 27; refine (is_calls b t n _ h16).mono ?_; rintro e w' ⟨rfl, rfl⟩) | (go_at_call 14; refine (scanned_calls b t n S A inn _ h).mono ?_; rintro e w' ⟨rfl, rfl⟩) | (go_at_call 23; refine (asked_calls b t n S A inn _ h).mono ?_; rintro e w' ⟨rfl, rfl⟩))
        go_ret
        exact .inl ⟨h1, h2', h3', rfl, h.setA _ (by omega) _, (Upd.refl _ _).set (by rfl) _⟩
  · have h1' : isB n t = false := by simpa using h1
    go_enter Try.func16, Try.ntmps16
    go_wp2_with (go_at_call 27; refine (is_calls b t n _ h16).mono ?_; rintro e w' ⟨rfl, rfl⟩)
    go_ret
    exact .inr ⟨by simp [h1'], rfl, rfl⟩

theorem lay_calls (b : Nat) (t : Int) (n : Nat) (S A : Nat → Bool) (inn : Bool) (w : World) (h : ShAt w b S A n inn) :
    Calls Try.prog 17 #[.pointer (some ⟨b, 0, none⟩), .int .i64 t] w fun e w' =>
      (isB n t = true ∧ scB S n inn t = false ∧ e = .returned (.int .i64 0) ∧ ShAt w' b (put S (t.toNat - 1) true) (put A (t.toNat - 1) false) n inn ∧ Upd (fun k => k = b) w w') ∨
      (¬ (isB n t = true ∧ scB S n inn t = false) ∧ e = .returned (.int .i64 140) ∧ w = w') := by
  have h16 := h.many
  have h17 := h.inn
  have hle := h.le
  by_cases h1 : isB n t = true
  · obtain ⟨hb1, hb2⟩ := isB_bounds h1
    by_cases h2 : scB S n inn t = true
    · go_enter Try.func17, Try.ntmps17
      go_wp2_with (first | (go_at_call 27; refine (is_calls b t n _ h16).mono ?_; rintro e w' ⟨rfl, rfl⟩) | (go_at_call 14; refine (scanned_calls b t n S A inn _ h).mono ?_; rintro e w' ⟨rfl, rfl⟩))
      go_ret
      exact .inr ⟨by simp [h2], rfl, rfl⟩
    · have h2' : scB S n inn t = false := by simpa using h2
      have hc0 := h.S (t.toNat - 1) (by omega)
      have hf0 := h.fr ((t.toNat - 1) * 2)
      have hc := h.A (t.toNat - 1) (by omega)
      have hf := h.fr ((t.toNat - 1) * 2 + 1)
      go_enter Try.func17, Try.ntmps17
      go_wp2_with (first | (go_at_call 27; refine (is_calls b t n _ h16).mono ?_; rintro e w' ⟨rfl, rfl⟩) | (go_at_call 14; refine (scanned_calls b t n S A inn _ h).mono ?_; rintro e w' ⟨rfl, rfl⟩))
      go_ret
      exact .inl ⟨h1, h2', rfl, (h.setS _ (by omega) _).setA _ (by omega) _, ((Upd.refl _ _).set (by rfl) _).set (by rfl) _⟩
  · have h1' : isB n t = false := by simpa using h1
    go_enter Try.func17, Try.ntmps17
    go_wp2_with (go_at_call 27; refine (is_calls b t n _ h16).mono ?_; rintro e w' ⟨rfl, rfl⟩)
    go_ret
    exact .inr ⟨by simp [h1'], rfl, rfl⟩

theorem end_calls (b : Nat) (n : Nat) (S A : Nat → Bool) (inn : Bool) (w : World) (h : ShAt w b S A n inn) :
    Calls Try.prog 15 #[.pointer (some ⟨b, 0, none⟩)] w fun e w' =>
      (inn = true ∧ leftS S n inn = 0 ∧ e = .returned (.int .i64 0) ∧ ShAt w' b S A n false ∧ Upd (fun k => k = b) w w') ∨
      (¬ (inn = true ∧ leftS S n inn = 0) ∧ e = .returned (.int .i64 140) ∧ w = w') := by
  have h17 := h.inn
  have hf := h.fr 17
  cases inn with
  | false =>
    go_enter Try.func15, Try.ntmps15
    go_wp2
    go_ret
    exact .inr ⟨by simp, rfl, rfl⟩
  | true =>
    by_cases h1 : leftS S n true = 0
    · have h1b : ((leftS S n true : Int) != 0) = false := by simp [h1]
      have H := Lib.hid h1; clear h1
      go_enter Try.func15, Try.ntmps15
      go_wp2_with (go_at_call 13; refine (left_calls b n S A true _ h).mono ?_; rintro e w' ⟨rfl, rfl⟩)
      go_ret
      exact .inl ⟨by trivial, H.out, rfl, h.setI _, (Upd.refl _ _).set (by rfl) _⟩
    · have h1b : ((leftS S n true : Int) != 0) = true := by simp [h1]
      go_enter Try.func15, Try.ntmps15
      go_wp2_with (go_at_call 13; refine (left_calls b n S A true _ h).mono ?_; rintro e w' ⟨rfl, rfl⟩)
      go_ret
      exact .inr ⟨by simp [h1], rfl, rfl⟩

theorem begin_calls (b : Nat) (n : Nat) (S A : Nat → Bool) (inn : Bool) (w : World) (h : ShAt w b S A n inn) :
    Calls Try.prog 12 #[.pointer (some ⟨b, 0, none⟩)] w fun e w' =>
      (inn = false ∧ e = .returned (.int .i64 0) ∧ (∃ S' A', ShAt w' b S' A' n true ∧ ∀ i, i < n → S' i = false ∧ A' i = false) ∧ Upd (fun k => k = b) w w') ∨
      (inn = true ∧ e = .returned (.int .i64 140) ∧ w = w') := by
  have h17 := h.inn
  have h16 := h.many
  have hf := h.fr 17
  have hle := h.le
  cases inn with
  | true =>
    go_enter Try.func12, Try.ntmps12
    go_wp2
    go_ret
    exact .inr ⟨by trivial, rfl, rfl⟩
  | false =>
    have h' := h.setI true
    have h16' := h'.many
    go_enter Try.func12, Try.ntmps12
    go_wp2
    go_loopw [3, 15] (fun _ i wr => ∃ k : Nat, k ≤ n ∧ i = .int .i64 k ∧ (∃ S' A', ShAt wr b S' A' n true ∧ ∀ i, i < k → S' i = false ∧ A' i = false) ∧ Upd (fun k => k = b) w wr) (fun _ i _ => n - (intOf i).toNat)
    case atStart => exact ⟨0, Nat.zero_le _, rfl, ⟨S, A, h', fun i hi => by omega⟩, (Upd.refl _ _).set (by rfl) _⟩
    case round =>
      obtain ⟨k, hk, rfl, ⟨S', A', hw, hz⟩, hu⟩ := hrel
      have hz' := Lib.hid hz; clear hz
      by_cases hlt : k < n
      · have hc0 := hw.S k (by omega)
        have hf0 := hw.fr (k * 2)
        have hc := hw.A k (by omega)
        have hf := hw.fr (k * 2 + 1)
        go_wp2
        go_roundw
        case rel => exact ⟨k + 1, by omega, by go_num, ⟨_, _, (hw.setS k (by omega) false).setA k (by omega) false, fun i hi => by
          by_cases e : i = k
          · subst e; simp [put]
          · simp only [put, if_neg e]; exact hz'.out i (by omega)⟩, (hu.set (by rfl) _).set (by rfl) _⟩
        case measure => simp [intOf]; omega
      · have hkn : k = n := by omega
        subst hkn
        go_wp2
        go_ret
        exact .inl ⟨by trivial, rfl, ⟨S', A', hw, hz'.out⟩, hu⟩
end Go.Proofs.Ytfoknglgnbceaaa
