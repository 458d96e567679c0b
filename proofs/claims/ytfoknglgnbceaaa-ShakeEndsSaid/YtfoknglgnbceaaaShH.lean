import Derived.Test.YtfoknglgnbceaaaShG
namespace Go.Proofs.Ytfoknglgnbceaaa
open Go.RowKit

theorem Both.kept {F : Nat → Prop} {w w' : World} {b r : Nat} {v : Value} {S A S' A' : Nat → Bool} {n : Nat} {inn : Bool} (h : Both w b r v S A S' A' n inn) (u : Upd F w w') (hb : ¬ F b) (hr : ∀ k, foot r v k → ¬ F k) : Both w' b r v S A S' A' n inn :=
  ⟨h.sh.kept u hb, h.rf.kept u hr, h.eq, h.ne⟩
theorem foot_lt {w : World} {r : Nat} {v : Value} {S A : Nat → Bool} {n : Nat} {inn : Bool} (h : RfAt w r v S A n inn) (k : Nat) (hk : foot r v k) : k < w.heap.size := by
  rcases hk with rfl | hk
  · exact h.lt
  · exact (h.own.lt k hk).2

/-- The end of each call: from the box's world on. -/
theorem Does.of_box {b r : Nat} {v v' : Value} {w w' : World} {o : Obj} {S A S' A' S2 A2 S3 A3 : Nat → Bool} {n n2 : Nat} {inn inn2 : Bool} (h : Both w b r v S A S' A' n inn)
    (hs : ShAt w' b S2 A2 n2 inn2) (hr : RfAt w' r v' S3 A3 n2 inn2) (he : inn2 = true → ∀ i, i < n2 → S2 i = S3 i ∧ A2 i = A3 i)
    (hu : Upd (fun k => k = b ∨ foot r v k) (w.alloc o) w') (hf : ∀ k, foot r v' k → foot r v k ∨ (w.alloc o).heap.size ≤ k) : Does b r v w w' :=
  Does.mk hs hr he h.ne h.sh.lt (((Upd.refl _ w).alloc o).trans' hu (fun _ _ x => x)) (fun k hk => by
    rcases hf k hk with x | x
    · exact .inl x
    · right; simp at x; omega)

theorem Both.box {w : World} {b r : Nat} {v : Value} {S A S' A' : Nat → Bool} {n : Nat} {inn : Bool} (h : Both w b r v S A S' A' n inn) (o : Obj) : Both (w.alloc o) b r v S A S' A' n inn :=
  h.kept ((Upd.refl (fun _ => False) w).alloc o) (fun x => x) (fun _ _ x => x)

theorem does_other (b r : Nat) (k t : Int) (v : Value) (S A S' A' : Nat → Bool) (n : Nat) (inn : Bool) (w : World) (h : Both w b r v S A S' A' n inn) (hk : k ≠ 1 ∧ k ≠ 2 ∧ k ≠ 3 ∧ k ≠ 4 ∧ k ≠ 5) :
    Calls Try.prog 8 #[.pointer (some ⟨b, 0, none⟩), .pointer (some ⟨r, 0, none⟩), .agg #[.int .i64 k, .int .i64 t]] w fun e w' => e = .returned (.bool true) ∧ Does b r v w w' := by
  have h1 : (k == 1) = false := by rw [beq_eq_false_iff_ne]; omega
  have h2 : (k == 2) = false := by rw [beq_eq_false_iff_ne]; omega
  have h3 : (k == 3) = false := by rw [beq_eq_false_iff_ne]; omega
  have h4 : (k == 4) = false := by rw [beq_eq_false_iff_ne]; omega
  have h5 : (k == 5) = false := by rw [beq_eq_false_iff_ne]; omega
  go_enter Try.func8, Try.ntmps8
  go_wp2
  go_ret
  exact ⟨rfl, Does.of_box h (h.box _).sh (h.box _).rf h.eq (Upd.refl _ _) (fun k hk => .inl hk)⟩

theorem does_begin (b r : Nat) (t : Int) (v : Value) (S A S' A' : Nat → Bool) (n : Nat) (inn : Bool) (w : World) (h : Both w b r v S A S' A' n inn) :
    Calls Try.prog 8 #[.pointer (some ⟨b, 0, none⟩), .pointer (some ⟨r, 0, none⟩), .agg #[.int .i64 2, .int .i64 t]] w fun e w' => e = .returned (.bool true) ∧ Does b r v w w' := by
  have hb := fun o => h.box o
  have c1 := fun W hW => begin_calls b n S A inn W hW
  cases inn with
  | false =>
    go_enter Try.func8, Try.ntmps8
    go_wp2_with (first
      | (go_at_call 12; refine (begin_calls b n S A false _ (hb _).sh).mono ?_; rintro e w1 (⟨_, rfl, ⟨S2, A2, hs, hz⟩, hu⟩ | ⟨hx, _⟩); rotate_left; exact absurd hx (by decide); have hr := (hb _).rf.kept hu (fun k hk e => h.ne (by subst e; exact hk)); clear c1; have Hz := Lib.hid hz; clear hz)
      | (go_at_call 19; refine (rbegin_calls r n v S' A' false _ hr).mono ?_; rintro e w2 (⟨_, rfl, hr2, hu2⟩ | ⟨hx, _⟩); rotate_left; exact absurd hx (by decide)))
    go_ret
    exact ⟨rfl, Does.of_box h (hs.kept hu2 h.ne) hr2 (fun _ i hi => Hz.out i hi) ((hu.mono (fun i _ e => .inl e)).trans (hu2.mono (fun i _ e => .inr e))) (fun k hk => .inl hk)⟩
  | true =>
    go_enter Try.func8, Try.ntmps8
    go_wp2_with (first
      | (go_at_call 12; refine (begin_calls b n S A true _ (hb _).sh).mono ?_; rintro e w1 (⟨hx, _⟩ | ⟨_, rfl, rfl⟩); exact absurd hx (by decide))
      | (go_at_call 19; refine (rbegin_calls r n v S' A' true _ (hb _).rf).mono ?_; rintro e w2 (⟨hx, _⟩ | ⟨_, rfl, rfl⟩); exact absurd hx (by decide)))
    go_ret
    exact ⟨rfl, Does.of_box h (h.box _).sh (h.box _).rf h.eq (Upd.refl _ _) (fun k hk => .inl hk)⟩

theorem put_eq {f g : Nat → Bool} {k i : Nat} {x : Bool} (h : f i = g i) : put f k x i = put g k x i := by unfold put; split; rfl; exact h

theorem boxed {w w1 : World} {b : Nat} {k t : Int} (hb : b < w.heap.size) (hu : Upd (fun i => i = b) (w.alloc (.cells #[.int .i64 k, .int .i64 t] 34)) w1) : w1.cell? ⟨w.heap.size, 1, none⟩ = some (.int .i64 t) :=
  hu.cell (a := ⟨w.heap.size, 1, none⟩) (by simp) (fun e => by have : w.heap.size = b := e; omega)

theorem lay_iff {w : World} {b r : Nat} {v : Value} {S A S' A' : Nat → Bool} {n : Nat} {inn : Bool} (h : Both w b r v S A S' A' n inn) (t : Int) :
    (isB n t = true ∧ scB S n inn t = false) ↔ rsB S' n inn t = true := by
  by_cases hi : isB n t = true
  · obtain ⟨h1, h2⟩ := isB_bounds hi
    cases inn with
    | false => simp [scB, rsB, hi]
    | true => simp [scB, rsB, hi, (h.eq rfl (t.toNat - 1) (by omega)).1]
  · have hi' : isB n t = false := by simpa using hi
    simp [rsB, hi']
theorem ask_iff {w : World} {b r : Nat} {v : Value} {S A S' A' : Nat → Bool} {n : Nat} {inn : Bool} (h : Both w b r v S A S' A' n inn) (t : Int) :
    (isB n t = true ∧ scB S n inn t = false ∧ asB A n inn t = false) ↔ (rsB S' n inn t = true ∧ A' (t.toNat - 1) = false) := by
  by_cases hi : isB n t = true
  · obtain ⟨h1, h2⟩ := isB_bounds hi
    cases inn with
    | false => simp [scB, rsB, hi]
    | true => simp [scB, rsB, asB, hi, (h.eq rfl (t.toNat - 1) (by omega)).1, (h.eq rfl (t.toNat - 1) (by omega)).2]
  · have hi' : isB n t = false := by simpa using hi
    simp [rsB, hi']

theorem does_ask (b r : Nat) (t : Int) (v : Value) (S A S' A' : Nat → Bool) (n : Nat) (inn : Bool) (w : World) (h : Both w b r v S A S' A' n inn) :
    Calls Try.prog 8 #[.pointer (some ⟨b, 0, none⟩), .pointer (some ⟨r, 0, none⟩), .agg #[.int .i64 3, .int .i64 t]] w fun e w' => e = .returned (.bool true) ∧ Does b r v w w' := by
  have hb := fun o => h.box o
  have hi := Lib.hid (ask_iff h t)
  by_cases hc : isB n t = true ∧ scB S n inn t = false ∧ asB A n inn t = false
  · have Hc := Lib.hid hc; clear hc
    go_enter Try.func8, Try.ntmps8
    go_wp2_with (first
      | (go_at_call 16; refine (ask_calls b t n S A inn _ (hb _).sh).mono ?_; rintro e w1 (⟨_, _, _, rfl, hs, hu⟩ | ⟨hx, _⟩); rotate_left; exact absurd Hc.out hx; have hr := (hb _).rf.kept hu (fun k hk e => h.ne (by subst e; exact hk)); have hx1 := boxed h.sh.lt hu)
      | (go_at_call 20; refine (rask_calls r t n v S' A' inn _ hr).mono ?_; rintro e w2 (⟨_, _, rfl, hr2, hu2⟩ | ⟨hx, _⟩); rotate_left; exact absurd (hi.out.1 Hc.out) hx))
    go_ret
    exact ⟨rfl, Does.of_box h (hs.kept hu2 h.ne) hr2 (fun e i hi => ⟨(h.eq e i hi).1, put_eq (h.eq e i hi).2⟩) ((hu.mono (fun i _ e => .inl e)).trans (hu2.mono (fun i _ e => .inr e))) (fun k hk => .inl hk)⟩
  · have Hc := Lib.hid hc; clear hc
    go_enter Try.func8, Try.ntmps8
    go_wp2_with (first
      | (go_at_call 16; refine (ask_calls b t n S A inn _ (hb _).sh).mono ?_; rintro e w1 (⟨x, y, z, _⟩ | ⟨_, rfl, rfl⟩); exact absurd ⟨x, y, z⟩ Hc.out)
      | (go_at_call 20; refine (rask_calls r t n v S' A' inn _ (hb _).rf).mono ?_; rintro e w2 (⟨x, y, _⟩ | ⟨_, rfl, rfl⟩); exact absurd (hi.out.2 ⟨x, y⟩) Hc.out))
    go_ret
    exact ⟨rfl, Does.of_box h (h.box _).sh (h.box _).rf h.eq (Upd.refl _ _) (fun k hk => .inl hk)⟩

theorem does_lay (b r : Nat) (t : Int) (v : Value) (S A S' A' : Nat → Bool) (n : Nat) (inn : Bool) (w : World) (h : Both w b r v S A S' A' n inn) :
    Calls Try.prog 8 #[.pointer (some ⟨b, 0, none⟩), .pointer (some ⟨r, 0, none⟩), .agg #[.int .i64 4, .int .i64 t]] w fun e w' => e = .returned (.bool true) ∧ Does b r v w w' := by
  have hb := fun o => h.box o
  have hi := Lib.hid (lay_iff h t)
  by_cases hc : isB n t = true ∧ scB S n inn t = false
  · have Hc := Lib.hid hc; clear hc
    go_enter Try.func8, Try.ntmps8
    go_wp2_with (first
      | (go_at_call 17; refine (lay_calls b t n S A inn _ (hb _).sh).mono ?_; rintro e w1 (⟨_, _, rfl, hs, hu⟩ | ⟨hx, _⟩); rotate_left; exact absurd Hc.out hx; have hr := (hb _).rf.kept hu (fun k hk e => h.ne (by subst e; exact hk)); have hx1 := boxed h.sh.lt hu)
      | (go_at_call 21; refine (rlay_calls r t n v S' A' inn _ hr).mono ?_; rintro e w2 (⟨_, rfl, hr2, hu2⟩ | ⟨hx, _⟩); rotate_left; exact absurd (hi.out.1 Hc.out) hx))
    go_ret
    exact ⟨rfl, Does.of_box h (hs.kept hu2 h.ne) hr2 (fun e i hi => ⟨put_eq (h.eq e i hi).1, put_eq (h.eq e i hi).2⟩) ((hu.mono (fun i _ e => .inl e)).trans (hu2.mono (fun i _ e => .inr e))) (fun k hk => .inl hk)⟩
  · have Hc := Lib.hid hc; clear hc
    go_enter Try.func8, Try.ntmps8
    go_wp2_with (first
      | (go_at_call 17; refine (lay_calls b t n S A inn _ (hb _).sh).mono ?_; rintro e w1 (⟨x, y, _⟩ | ⟨_, rfl, rfl⟩); exact absurd ⟨x, y⟩ Hc.out)
      | (go_at_call 21; refine (rlay_calls r t n v S' A' inn _ (hb _).rf).mono ?_; rintro e w2 (⟨x, _⟩ | ⟨_, rfl, rfl⟩); exact absurd (hi.out.2 x) Hc.out))
    go_ret
    exact ⟨rfl, Does.of_box h (h.box _).sh (h.box _).rf h.eq (Upd.refl _ _) (fun k hk => .inl hk)⟩

theorem does_end (b r : Nat) (t : Int) (v : Value) (S A S' A' : Nat → Bool) (n : Nat) (inn : Bool) (w : World) (h : Both w b r v S A S' A' n inn) :
    Calls Try.prog 8 #[.pointer (some ⟨b, 0, none⟩), .pointer (some ⟨r, 0, none⟩), .agg #[.int .i64 5, .int .i64 t]] w fun e w' => e = .returned (.bool true) ∧ Does b r v w w' := by
  have hb := fun o => h.box o
  have hi := Lib.hid h.lf
  by_cases hc : inn = true ∧ leftS S n inn = 0
  · have Hc := Lib.hid hc; clear hc
    go_enter Try.func8, Try.ntmps8
    go_wp2_with (first
      | (go_at_call 15; refine (end_calls b n S A inn _ (hb _).sh).mono ?_; rintro e w1 (⟨_, _, rfl, hs, hu⟩ | ⟨hx, _⟩); rotate_left; exact absurd Hc.out hx; have hr := (hb _).rf.kept hu (fun k hk e => h.ne (by subst e; exact hk)); have hx1 := boxed h.sh.lt hu)
      | (go_at_call 22; refine (rend_calls r n v S' A' inn _ hr).mono ?_; rintro e w2 (⟨_, _, rfl, hr2, hu2⟩ | ⟨hx, _⟩); rotate_left; exact absurd (by rw [hi.out]; exact Hc.out) hx))
    go_ret
    exact ⟨rfl, Does.of_box h (hs.kept hu2 h.ne) hr2 (fun e => by cases e) ((hu.mono (fun i _ e => .inl e)).trans (hu2.mono (fun i _ e => .inr e))) (fun k hk => .inl hk)⟩
  · have Hc := Lib.hid hc; clear hc
    go_enter Try.func8, Try.ntmps8
    go_wp2_with (first
      | (go_at_call 15; refine (end_calls b n S A inn _ (hb _).sh).mono ?_; rintro e w1 (⟨x, y, _⟩ | ⟨_, rfl, rfl⟩); exact absurd ⟨x, y⟩ Hc.out)
      | (go_at_call 22; refine (rend_calls r n v S' A' inn _ (hb _).rf).mono ?_; rintro e w2 (⟨x, y, _⟩ | ⟨_, rfl, rfl⟩); exact absurd ⟨x, by rw [← hi.out]; exact y⟩ Hc.out))
    go_ret
    exact ⟨rfl, Does.of_box h (h.box _).sh (h.box _).rf h.eq (Upd.refl _ _) (fun k hk => .inl hk)⟩

theorem born_calls (b : Nat) (t : Int) (n : Nat) (S A : Nat → Bool) (inn : Bool) (w : World) (h : ShAt w b S A n inn) :
    Calls Try.prog 11 #[.pointer (some ⟨b, 0, none⟩), .int .i64 t] w fun e w' =>
      (n = 8 ∧ e = .returned (.tuple #[.int .i64 0, .int .i64 2]) ∧ w = w') ∨
      (n < 8 ∧ bornOk n t = false ∧ e = .returned (.tuple #[.int .i64 0, .int .i64 140]) ∧ w = w') ∨
      (n < 8 ∧ bornOk n t = true ∧ e = .returned (.tuple #[.int .i64 (n + 1), .int .i64 0]) ∧ ShAt w' b (put S n (decide (t = 0) || scB S n inn t)) (put A n false) (n + 1) inn ∧ Upd (fun k => k = b) w w') := by
  have hle := h.le
  by_cases h8 : n = 8
  · subst h8
    exact (born_full b t S A inn w h).mono fun e w' hx => .inl ⟨rfl, hx.1, hx.2⟩
  · by_cases hk : bornOk n t = true
    · by_cases h0 : t = 0
      · subst h0
        exact (born_root b n S A inn w h (by omega)).mono fun e w' hx => .inr (.inr ⟨by omega, hk, hx.1, by simpa using hx.2.1, hx.2.2⟩)
      · have h1 : isB n t = true := by simpa [bornOk, h0] using hk
        exact (born_by b t n S A inn w h (by omega) h1).mono fun e w' hx => .inr (.inr ⟨by omega, hk, hx.1, by simpa [h0] using hx.2.1, hx.2.2⟩)
    · have hk' : bornOk n t = false := by simpa using hk
      exact (born_no b t n S A inn w h (by omega) hk').mono fun e w' hx => .inr (.inl ⟨by omega, hk', hx.1, hx.2⟩)

theorem does_born (b r : Nat) (t : Int) (v : Value) (S A S' A' : Nat → Bool) (n : Nat) (inn : Bool) (w : World) (h : Both w b r v S A S' A' n inn) :
    Calls Try.prog 8 #[.pointer (some ⟨b, 0, none⟩), .pointer (some ⟨r, 0, none⟩), .agg #[.int .i64 1, .int .i64 t]] w fun e w' => e = .returned (.bool true) ∧ Does b r v w w' := by
  have hb := fun o => h.box o
  have hle := h.sh.le
  by_cases h8 : n = 8
  · subst h8
    go_enter Try.func8, Try.ntmps8
    go_wp2_with (first
      | (go_at_call 11; refine (born_full b t S A inn _ (hb _).sh).mono ?_; rintro e w1 ⟨rfl, rfl⟩)
      | (go_at_call 18; refine (rborn_full r t v S' A' inn _ (hb _).rf).mono ?_; rintro e w2 ⟨rfl, rfl⟩))
    go_ret
    exact ⟨rfl, Does.of_box h (h.box _).sh (h.box _).rf h.eq (Upd.refl _ _) (fun k hk => .inl hk)⟩
  · have hlt : n < 8 := by omega
    by_cases hk : bornOk n t = true
    · have Hk := Lib.hid hk; clear hk
      go_enter Try.func8, Try.ntmps8
      go_wp2_with (first
        | (go_at_call 11; refine (born_calls b t n S A inn _ (hb _).sh).mono ?_; rintro e w1 (⟨hx, _⟩ | ⟨_, hx, _⟩ | ⟨_, _, rfl, hs, hu⟩); exact absurd hx h8; exact absurd Hk.out (by simp [hx]); have hr := (hb _).rf.kept hu (fun k hk e => h.ne (by subst e; exact hk)); have hx1 := boxed h.sh.lt hu)
        | (go_at_call 18; refine (rborn_yes r t n v S' A' inn _ hr hlt Hk.out).mono ?_; rintro e w2 ⟨rfl, v2, hr2, hu2, hf2⟩))
      go_ret
      refine ⟨rfl, Does.of_box h (hs.kept hu2 h.ne) hr2 (fun e i hi => ?_) ((hu.mono (fun i _ e => .inl e)).trans (hu2.mono (fun i _ e => .inr e))) (fun k hk => (hf2 k hk).imp id (fun x => Nat.le_trans hu.size x))⟩
      subst e
      by_cases hin : i = n
      · subst hin
        simp only [put_same, rLaid, and_true]
        by_cases h0 : t = 0
        · simp [h0]
        · have h1 : isB i t = true := by simpa [bornOk, h0] using Hk.out
          obtain ⟨q1, q2⟩ := isB_bounds h1
          simp [h0, scB, h1, (h.eq rfl (t.toNat - 1) (by omega)).1]
      · rw [put_other _ _ _ _ hin, put_other _ _ _ _ hin, put_other _ _ _ _ hin, put_other _ _ _ _ hin]
        exact h.eq rfl i (by omega)
    · have hk' : bornOk n t = false := by simpa using hk
      have Hk := Lib.hid hk'; clear hk hk'
      go_enter Try.func8, Try.ntmps8
      go_wp2_with (first
        | (go_at_call 11; refine (born_no b t n S A inn _ (hb _).sh hlt Hk.out).mono ?_; rintro e w1 ⟨rfl, rfl⟩)
        | (go_at_call 18; refine (rborn_no r t n v S' A' inn _ (hb _).rf hlt Hk.out).mono ?_; rintro e w2 ⟨rfl, rfl⟩))
      go_ret
      exact ⟨rfl, Does.of_box h (h.box _).sh (h.box _).rf h.eq (Upd.refl _ _) (fun k hk => .inl hk)⟩

theorem does_calls (b r : Nat) (k t : Int) (v : Value) (S A S' A' : Nat → Bool) (n : Nat) (inn : Bool) (w : World) (h : Both w b r v S A S' A' n inn) :
    Calls Try.prog 8 #[.pointer (some ⟨b, 0, none⟩), .pointer (some ⟨r, 0, none⟩), .agg #[.int .i64 k, .int .i64 t]] w fun e w' => e = .returned (.bool true) ∧ Does b r v w w' := by
  by_cases h1 : k = 1
  · subst h1; exact does_born b r t v S A S' A' n inn w h
  by_cases h2 : k = 2
  · subst h2; exact does_begin b r t v S A S' A' n inn w h
  by_cases h3 : k = 3
  · subst h3; exact does_ask b r t v S A S' A' n inn w h
  by_cases h4 : k = 4
  · subst h4; exact does_lay b r t v S A S' A' n inn w h
  by_cases h5 : k = 5
  · subst h5; exact does_end b r t v S A S' A' n inn w h
  exact does_other b r k t v S A S' A' n inn w h ⟨h1, h2, h3, h4, h5⟩
end Go.Proofs.Ytfoknglgnbceaaa
