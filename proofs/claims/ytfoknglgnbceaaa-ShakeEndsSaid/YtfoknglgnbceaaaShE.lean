import Derived.Test.YtfoknglgnbceaaaShD
namespace Go.Proofs.Ytfoknglgnbceaaa
open Go.RowKit

theorem rasked_calls (b : Nat) (t : Int) (n : Nat) (v : Value) (S A : Nat → Bool) (inn : Bool) (w : World) (h : RfAt w b v S A n inn) :
    Calls Try.prog 24 #[.pointer (some ⟨b, 0, none⟩), .int .i64 t] w fun e w' => e = .returned (.bool (asB A n inn t)) ∧ w = w' := by
  have h0 := h.row
  have h1 := h.inn
  have hle := h.le
  obtain ⟨a, cap, rfl, hg⟩ := h.form
  cases inn with
  | false =>
    go_enter Try.func24, Try.ntmps24
    go_wp2
    go_ret
    exact ⟨by simp [asB], rfl⟩
  | true =>
    by_cases hi : isB n t = true
    · obtain ⟨hb1, hb2⟩ := isB_bounds hi
      obtain ⟨g, rfl, _, hS, hA, _⟩ := hg (by omega)
      have hs := hA (t.toNat - 1) (by omega)
      clear hS hA
      go_enter Try.func24, Try.ntmps24
      go_wp2
      go_ret
      exact ⟨by simp [asB, hi], rfl⟩
    · have hi' : isB n t = false := by simpa using hi
      by_cases ht : 1 ≤ t
      · have ht2 : (n : Int) < t := by simp [isB, ht] at hi'; omega
        clear hg
        go_enter Try.func24, Try.ntmps24
        go_wp2
        go_ret
        exact ⟨by simp [asB, hi'], rfl⟩
      · have ht2 : t < 1 := by omega
        clear hg
        go_enter Try.func24, Try.ntmps24
        go_wp2
        go_ret
        exact ⟨by simp [asB, hi'], rfl⟩

theorem rscanned_calls (b : Nat) (t : Int) (n : Nat) (v : Value) (S A : Nat → Bool) (inn : Bool) (w : World) (h : RfAt w b v S A n inn) :
    Calls Try.prog 25 #[.pointer (some ⟨b, 0, none⟩), .int .i64 t] w fun e w' => e = .returned (.bool (scB S n inn t)) ∧ w = w' := by
  have h0 := h.row
  have h1 := h.inn
  have hle := h.le
  obtain ⟨a, cap, rfl, hg⟩ := h.form
  by_cases hi : isB n t = true
  · obtain ⟨hb1, hb2⟩ := isB_bounds hi
    obtain ⟨g, rfl, _, hS, hA, _⟩ := hg (by omega)
    have hs := hS (t.toNat - 1) (by omega)
    clear hS hA
    cases inn
    all_goals
      go_enter Try.func25, Try.ntmps25
      go_wp2
      go_ret
      exact ⟨by simp [scB, hi], rfl⟩
  · have hi' : isB n t = false := by simpa using hi
    by_cases ht : 1 ≤ t
    · have ht2 : (n : Int) < t := by simp [isB, ht] at hi'; omega
      clear hg
      go_enter Try.func25, Try.ntmps25
      go_wp2
      go_ret
      exact ⟨by simp [scB, hi'], rfl⟩
    · have ht2 : t < 1 := by omega
      clear hg
      go_enter Try.func25, Try.ntmps25
      go_wp2
      go_ret
      exact ⟨by simp [scB, hi'], rfl⟩

theorem isB_in {n k : Nat} (h : k < n) : isB n ((k : Int) + 1) = true := by simp [isB]; omega
theorem scB_rs (S : Nat → Bool) (n : Nat) (inn : Bool) (k : Nat) (h : k < n) : rsB S n inn ((k : Int) + 1) = !scB S n inn ((k : Int) + 1) := by
  cases inn <;> simp [rsB, scB, isB_in h]

theorem rleft_calls (b : Nat) (n : Nat) (v : Value) (S A : Nat → Bool) (inn : Bool) (w : World) (h : RfAt w b v S A n inn) :
    Calls Try.prog 26 #[.pointer (some ⟨b, 0, none⟩)] w fun e w' => e = .returned (.int .i64 (leftS S n inn)) ∧ w = w' := by
  have h0 := h.row
  have hle := h.le
  obtain ⟨a, cap, rfl, hg⟩ := h.form
  clear hg
  go_enter Try.func26, Try.ntmps26
  go_wp2
  go_loop [3] (fun i => ∃ k : Nat, k ≤ n ∧ i = .int .i64 ((k : Int) + 1) ∧ Hid (leftS S n inn = leftFrom (fun i => scB S n inn (i + 1)) k (n - k))) (fun i => n + 1 - (intOf i).toNat)
  case atStart => exact ⟨0, Nat.zero_le _, rfl, rfl⟩
  case round =>
    obtain ⟨k, hk, rfl, hl⟩ := hrel
    by_cases hlt : k < n
    · by_cases hs : scB S n inn (k + 1) = true
      · have ho : rsB S n inn ((k : Int) + 1) = false := by rw [scB_rs _ _ _ _ hlt, hs]; rfl
        have Ho := Lib.hid ho; clear ho
        go_wp2_with (go_at_call 28; refine (ropen_calls b _ n _ S A inn _ h).mono ?_; rintro e w' ⟨rfl, rfl⟩; rw [Ho.out])
        go_round
        case rel => exact ⟨k + 1, by omega, by go_num, by
          have := hl.out; rw [show n - k = (n - (k + 1)) + 1 by omega, leftFrom, if_pos hs] at this; exact this⟩
        case measure => simp [intOf]; omega
      · have hs' : scB S n inn (k + 1) = false := by simpa using hs
        have ho : rsB S n inn ((k : Int) + 1) = true := by rw [scB_rs _ _ _ _ hlt, hs']; rfl
        have Ho := Lib.hid ho; clear ho
        go_wp2_with (go_at_call 28; refine (ropen_calls b _ n _ S A inn _ h).mono ?_; rintro e w' ⟨rfl, rfl⟩; rw [Ho.out])
        go_ret
        exact ⟨ret_int' (by
          have := hl.out; rw [show n - k = (n - (k + 1)) + 1 by omega, leftFrom, if_neg hs] at this; rw [this]; simp), rfl⟩
    · have hkn : k = n := by omega
      subst hkn
      go_wp2
      go_ret
      exact ⟨ret_int' (by have := hl.out; rw [Nat.sub_self, leftFrom] at this; rw [this]; rfl), rfl⟩

theorem rend_calls (b : Nat) (n : Nat) (v : Value) (S A : Nat → Bool) (inn : Bool) (w : World) (h : RfAt w b v S A n inn) :
    Calls Try.prog 22 #[.pointer (some ⟨b, 0, none⟩)] w fun e w' =>
      (inn = true ∧ leftS S n inn = 0 ∧ e = .returned (.int .i64 0) ∧ RfAt w' b v S A n false ∧ Upd (foot b v) w w') ∨
      (¬ (inn = true ∧ leftS S n inn = 0) ∧ e = .returned (.int .i64 140) ∧ w = w') := by
  have h1 := h.inn
  have hf := h.fr 1
  cases inn with
  | false =>
    go_enter Try.func22, Try.ntmps22
    go_wp2
    go_ret
    exact .inr ⟨by simp, rfl, rfl⟩
  | true =>
    by_cases hl : leftS S n true = 0
    · have h1b : ((leftS S n true : Int) != 0) = false := by simp [hl]
      have H := Lib.hid hl; clear hl
      go_enter Try.func22, Try.ntmps22
      go_wp2_with (go_at_call 26; refine (rleft_calls b n v S A true _ h).mono ?_; rintro e w' ⟨rfl, rfl⟩)
      go_ret
      exact .inl ⟨by trivial, H.out, rfl, h.setI _, (Upd.refl _ _).set (by exact .inl rfl) _⟩
    · have h1b : ((leftS S n true : Int) != 0) = true := by simp [hl]
      go_enter Try.func22, Try.ntmps22
      go_wp2_with (go_at_call 26; refine (rleft_calls b n v S A true _ h).mono ?_; rintro e w' ⟨rfl, rfl⟩)
      go_ret
      exact .inr ⟨by simp [hl], rfl, rfl⟩

theorem rask_calls (b : Nat) (t : Int) (n : Nat) (v : Value) (S A : Nat → Bool) (inn : Bool) (w : World) (h : RfAt w b v S A n inn) :
    Calls Try.prog 20 #[.pointer (some ⟨b, 0, none⟩), .int .i64 t] w fun e w' =>
      (rsB S n inn t = true ∧ A (t.toNat - 1) = false ∧ e = .returned (.int .i64 0) ∧ RfAt w' b v S (put A (t.toNat - 1) true) n inn ∧ Upd (foot b v) w w') ∨
      (¬ (rsB S n inn t = true ∧ A (t.toNat - 1) = false) ∧ e = .returned (.int .i64 140) ∧ w = w') := by
  have h0 := h.row
  have hle := h.le
  by_cases ho : rsB S n inn t = true
  · have hi : isB n t = true := by cases hh : isB n t <;> simp_all [rsB]
    obtain ⟨hb1, hb2⟩ := isB_bounds hi
    obtain ⟨a, cap, hv, hg⟩ := h.form
    obtain ⟨g, ha, _, hS, hA, hfr⟩ := hg (by omega)
    subst ha; subst hv
    have hs := hA (t.toNat - 1) (by omega)
    have hf := hfr ((t.toNat - 1) * 2 + 1)
    clear hS hA hfr hg
    have Ho := Lib.hid ho; clear ho
    by_cases ha : A (t.toNat - 1) = true
    · go_enter Try.func20, Try.ntmps20
      go_wp2_with (go_at_call 28; refine (ropen_calls b t n _ S A inn _ h).mono ?_; rintro e w' ⟨rfl, rfl⟩; rw [Ho.out])
      go_ret
      exact .inr ⟨by simp [ha], rfl, rfl⟩
    · have ha' : A (t.toNat - 1) = false := by simpa using ha
      go_enter Try.func20, Try.ntmps20
      go_wp2_with (go_at_call 28; refine (ropen_calls b t n _ S A inn _ h).mono ?_; rintro e w' ⟨rfl, rfl⟩; rw [Ho.out])
      go_ret
      exact .inl ⟨Ho.out, ha', rfl, h.setA _ _, (Upd.refl _ _).set (by exact .inr rfl) _⟩
  · have ho' : rsB S n inn t = false := by simpa using ho
    go_enter Try.func20, Try.ntmps20
    go_wp2_with (go_at_call 28; refine (ropen_calls b t n _ S A inn _ h).mono ?_; rintro e w' ⟨rfl, rfl⟩)
    go_ret
    exact .inr ⟨by simp [ho'], rfl, rfl⟩

theorem rlay_calls (b : Nat) (t : Int) (n : Nat) (v : Value) (S A : Nat → Bool) (inn : Bool) (w : World) (h : RfAt w b v S A n inn) :
    Calls Try.prog 21 #[.pointer (some ⟨b, 0, none⟩), .int .i64 t] w fun e w' =>
      (rsB S n inn t = true ∧ e = .returned (.int .i64 0) ∧ RfAt w' b v (put S (t.toNat - 1) true) (put A (t.toNat - 1) false) n inn ∧ Upd (foot b v) w w') ∨
      (¬ rsB S n inn t = true ∧ e = .returned (.int .i64 140) ∧ w = w') := by
  have h0 := h.row
  have hle := h.le
  by_cases ho : rsB S n inn t = true
  · have hi : isB n t = true := by cases hh : isB n t <;> simp_all [rsB]
    obtain ⟨hb1, hb2⟩ := isB_bounds hi
    obtain ⟨a, cap, hv, hg⟩ := h.form
    obtain ⟨g, ha, _, hS, hA, hfr⟩ := hg (by omega)
    subst ha; subst hv
    have hs0 := hS (t.toNat - 1) (by omega)
    have hf0 := hfr ((t.toNat - 1) * 2)
    have hs := hA (t.toNat - 1) (by omega)
    have hf := hfr ((t.toNat - 1) * 2 + 1)
    clear hS hA hfr hg
    have Ho := Lib.hid ho; clear ho
    go_enter Try.func21, Try.ntmps21
    go_wp2_with (go_at_call 28; refine (ropen_calls b t n _ S A inn _ h).mono ?_; rintro e w' ⟨rfl, rfl⟩; rw [Ho.out])
    go_ret
    exact .inl ⟨Ho.out, rfl, (h.setS _ _).setA _ _, ((Upd.refl _ _).set (by exact .inr rfl) _).set (by exact .inr rfl) _⟩
  · have ho' : rsB S n inn t = false := by simpa using ho
    go_enter Try.func21, Try.ntmps21
    go_wp2_with (go_at_call 28; refine (ropen_calls b t n _ S A inn _ h).mono ?_; rintro e w' ⟨rfl, rfl⟩)
    go_ret
    exact .inr ⟨by simp [ho'], rfl, rfl⟩

theorem rbegin_calls (b : Nat) (n : Nat) (v : Value) (S A : Nat → Bool) (inn : Bool) (w : World) (h : RfAt w b v S A n inn) :
    Calls Try.prog 19 #[.pointer (some ⟨b, 0, none⟩)] w fun e w' =>
      (inn = false ∧ e = .returned (.int .i64 0) ∧ RfAt w' b v (fun _ => false) (fun _ => false) n true ∧ Upd (foot b v) w w') ∨
      (inn = true ∧ e = .returned (.int .i64 140) ∧ w = w') := by
  have h1 := h.inn
  have h0 := h.row
  have hf := h.fr 1
  have hle := h.le
  cases inn with
  | true =>
    go_enter Try.func19, Try.ntmps19
    go_wp2
    go_ret
    exact .inr ⟨by trivial, rfl, rfl⟩
  | false =>
    have h' := h.setI true
    have h0' := h'.row
    go_enter Try.func19, Try.ntmps19
    go_wp2
    go_loopw [3] (fun i wr => ∃ k : Nat, k ≤ n ∧ i = .int .i64 k ∧ (∃ S' A', RfAt wr b v S' A' n true ∧ ∀ i, i < k → S' i = false ∧ A' i = false) ∧ Upd (foot b v) w wr) (fun i _ => n - (intOf i).toNat)
    case atStart => exact ⟨0, Nat.zero_le _, rfl, ⟨S, A, h', fun i hi => by omega⟩, (Upd.refl _ _).set (by exact .inl rfl) _⟩
    case round =>
      obtain ⟨k, hk, rfl, ⟨S', A', hw, hz⟩, hu⟩ := hrel
      have hz' := Lib.hid hz; clear hz
      have hr := hw.row
      obtain ⟨a, cap, rfl, hg⟩ := hw.form
      by_cases hlt : k < n
      · obtain ⟨g, rfl, _, hS, hA, hfr⟩ := hg (by omega)
        have hs0 := hS k (by omega)
        have hf0 := hfr (k * 2)
        have hs := hA k (by omega)
        have hf := hfr (k * 2 + 1)
        clear hS hA hfr hg
        go_wp2
        go_roundw
        case rel => exact ⟨k + 1, by omega, by go_num, ⟨_, _, (hw.setS k false).setA k false, fun i hi => by
          by_cases e : i = k
          · subst e; simp [put]
          · simp only [put, if_neg e]; exact hz'.out i (by omega)⟩, (hu.set (by exact .inr rfl) _).set (by exact .inr rfl) _⟩
        case measure => simp [intOf]; omega
      · have hkn : k = n := by omega
        subst hkn
        clear hg
        go_wp2
        go_ret
        refine .inl ⟨by trivial, rfl, ⟨hw.le, hw.row, hw.inn, hw.fr, ?_, hw.ne⟩, hu⟩
        rw [← pairs_congr S' A' _ _ k hz'.out]
        exact hw.own
end Go.Proofs.Ytfoknglgnbceaaa
