import Derived.Test.YtfoknglgnbceaaaShK
namespace Go.Proofs.Ytfoknglgnbceaaa
open Go.RowKit

/-- What the walk is told of the calls that come in. -/
def IsActs (w : World) (a : Option Addr) (len : Nat) : Prop :=
  len ≤ 9223372036854775807 ∧ ∀ i, i < len → ∃ x k t, a = some x ∧ x.block < w.heap.size ∧ x.spot = none ∧ w.cell? ⟨x.block, x.off + i * 2, none⟩ = some (.int .i64 k) ∧ w.cell? ⟨x.block, x.off + i * 2 + 1, none⟩ = some (.int .i64 t)

/-- The blocks of one pair. -/
def own2 (b r : Nat) (v : Value) (k : Nat) : Prop := k = b ∨ foot r v k

/-- The two pairs, apart, and what lies beside them. -/
structure Two (w0 w : World) (bs br s0 s1 r0 r1 : Nat) : Prop where
  ex : ∃ v0 S0 A0 S0' A0' n0 i0 v1 S1 A1 S1' A1' n1 i1, Both w s0 r0 v0 S0 A0 S0' A0' n0 i0 ∧ Both w s1 r1 v1 S1 A1 S1' A1' n1 i1 ∧
    (∀ k, own2 s0 r0 v0 k → ¬ own2 s1 r1 v1 k ∧ k ≠ bs ∧ k ≠ br ∧ w0.heap.size ≤ k) ∧ (∀ k, own2 s1 r1 v1 k → k ≠ bs ∧ k ≠ br ∧ w0.heap.size ≤ k)
  s0c : w.cell? ⟨bs, 0, none⟩ = some (.pointer (some ⟨s0, 0, none⟩))
  s1c : w.cell? ⟨bs, 1, none⟩ = some (.pointer (some ⟨s1, 0, none⟩))
  r0c : w.cell? ⟨br, 0, none⟩ = some (.pointer (some ⟨r0, 0, none⟩))
  r1c : w.cell? ⟨br, 1, none⟩ = some (.pointer (some ⟨r1, 0, none⟩))
  bel : Below w0.heap.size w0 w
  bsz : bs < w.heap.size ∧ br < w.heap.size

theorem Two.drewN {w0 w : World} {bs br s0 s1 r0 r1 : Nat} (h : Two w0 w bs br s0 s1 r0 r1) (n : Nat) : Two w0 (w.drewN n) bs br s0 s1 r0 r1 := by
  obtain ⟨⟨v0, S0, A0, S0', A0', n0, i0, v1, S1, A1, S1', A1', n1, i1, h0, h1, hx, hy⟩, a, b, c, d, e, f⟩ := h
  have u : Upd (fun _ => False) w (w.drewN n) := (Upd.refl _ _).drewN n
  exact ⟨⟨v0, S0, A0, S0', A0', n0, i0, v1, S1, A1, S1', A1', n1, i1, h0.kept u (fun x => x) (fun _ _ x => x), h1.kept u (fun x => x) (fun _ _ x => x), hx, hy⟩, a, b, c, d, (u.to_below' (fun _ x => x.elim)).mono e.size |> e.trans, f⟩

theorem Two.drew {w0 w : World} {bs br s0 s1 r0 r1 : Nat} (h : Two w0 w bs br s0 s1 r0 r1) : Two w0 w.drew bs br s0 s1 r0 r1 := h.drewN 1

theorem Two.step0 {w0 w w' : World} {bs br s0 s1 r0 r1 : Nat} {v0 v1 : Value} {S0 A0 S0' A0' S1 A1 S1' A1' : Nat → Bool} {n0 n1 : Nat} {i0 i1 : Bool}
    (h : Two w0 w bs br s0 s1 r0 r1) (h0 : Both w s0 r0 v0 S0 A0 S0' A0' n0 i0) (h1 : Both w s1 r1 v1 S1 A1 S1' A1' n1 i1)
    (hx : ∀ k, own2 s0 r0 v0 k → ¬ own2 s1 r1 v1 k ∧ k ≠ bs ∧ k ≠ br ∧ w0.heap.size ≤ k) (hy : ∀ k, own2 s1 r1 v1 k → k ≠ bs ∧ k ≠ br ∧ w0.heap.size ≤ k)
    (hd : Does s0 r0 v0 w w') : Two w0 w' bs br s0 s1 r0 r1 := by
  obtain ⟨v', S2, A2, S3, A3, n2, i2, hb, hu, hf⟩ := hd
  have k1 := h1.kept hu (fun x => (hx s1 x).1 (.inl rfl)) (fun k hk x => (hx k x).1 (.inr hk))
  have nb : ¬ (bs = s0 ∨ foot r0 v0 bs) := fun x => (hx bs x).2.1 rfl
  have nr : ¬ (br = s0 ∨ foot r0 v0 br) := fun x => (hx br x).2.2.1 rfl
  have new : ∀ k, foot r0 v' k → own2 s0 r0 v0 k ∨ w.heap.size ≤ k := fun k hk => (hf k hk).imp (fun x => .inr x) id
  have lt1 : ∀ k, own2 s1 r1 v1 k → k < w.heap.size := fun k hk => by
    rcases hk with rfl | hk
    · exact h1.sh.lt
    · exact foot_lt h1.rf k hk
  refine ⟨⟨v', S2, A2, S3, A3, n2, i2, v1, S1, A1, S1', A1', n1, i1, hb, k1, fun k hk => ?_, hy⟩, hu.cell h.s0c nb, hu.cell h.s1c nb, hu.cell h.r0c nr, hu.cell h.r1c nr, ?_, ⟨Nat.lt_of_lt_of_le h.bsz.1 hu.size, Nat.lt_of_lt_of_le h.bsz.2 hu.size⟩⟩
  · rcases hk with rfl | hk
    · exact hx k (.inl rfl)
    · rcases new k hk with x | x
      · exact hx k x
      · have z := h.bel.size
        have q1 := h.bsz.1
        have q2 := h.bsz.2
        exact ⟨fun y => by have := lt1 k y; omega, by omega, by omega, by omega⟩
  · have : Upd (fun k => w0.heap.size ≤ k) w0 w := ⟨h.bel.os, h.bel.tape, h.bel.output, h.bel.size, fun k _ hk => h.bel.block k (by omega)⟩
    exact (this.trans (hu.mono (fun k _ x => (hx k x).2.2.2))).to_below

theorem Two.swap {w0 w : World} {bs br s0 s1 r0 r1 : Nat} (h : Two w0 w bs br s0 s1 r0 r1) :
    ∃ v0 S0 A0 S0' A0' n0 i0 v1 S1 A1 S1' A1' n1 i1, Both w s1 r1 v0 S0 A0 S0' A0' n0 i0 ∧ Both w s0 r0 v1 S1 A1 S1' A1' n1 i1 ∧
    (∀ k, own2 s1 r1 v0 k → ¬ own2 s0 r0 v1 k ∧ k ≠ bs ∧ k ≠ br ∧ w0.heap.size ≤ k) ∧ (∀ k, own2 s0 r0 v1 k → k ≠ bs ∧ k ≠ br ∧ w0.heap.size ≤ k) := by
  obtain ⟨v0, S0, A0, S0', A0', n0, i0, v1, S1, A1, S1', A1', n1, i1, h0, h1, hx, hy⟩ := h.ex
  exact ⟨v1, S1, A1, S1', A1', n1, i1, v0, S0, A0, S0', A0', n0, i0, h1, h0, fun k hk => ⟨fun x => (hx k x).1 hk, hy k hk⟩, fun k hk => (hx k hk).2⟩
theorem Two.step1 {w0 w w' : World} {bs br s0 s1 r0 r1 : Nat} {v0 v1 : Value} {S0 A0 S0' A0' S1 A1 S1' A1' : Nat → Bool} {n0 n1 : Nat} {i0 i1 : Bool}
    (h : Two w0 w bs br s0 s1 r0 r1) (h0 : Both w s1 r1 v0 S0 A0 S0' A0' n0 i0) (h1 : Both w s0 r0 v1 S1 A1 S1' A1' n1 i1)
    (hx : ∀ k, own2 s1 r1 v0 k → ¬ own2 s0 r0 v1 k ∧ k ≠ bs ∧ k ≠ br ∧ w0.heap.size ≤ k) (hy : ∀ k, own2 s0 r0 v1 k → k ≠ bs ∧ k ≠ br ∧ w0.heap.size ≤ k)
    (hd : Does s1 r1 v0 w w') : Two w0 w' bs br s0 s1 r0 r1 := by
  have h' : Two w0 w br br s1 s0 r1 r0 → True := fun _ => trivial
  have g : Two w0 w bs bs s1 s0 r1 r0 → True := fun _ => trivial
  obtain ⟨v', S2, A2, S3, A3, n2, i2, hb, hu, hf⟩ := hd
  have k1 := h1.kept hu (fun x => (hx s0 x).1 (.inl rfl)) (fun k hk x => (hx k x).1 (.inr hk))
  have nb : ¬ (bs = s1 ∨ foot r1 v0 bs) := fun x => (hx bs x).2.1 rfl
  have nr : ¬ (br = s1 ∨ foot r1 v0 br) := fun x => (hx br x).2.2.1 rfl
  have new : ∀ k, foot r1 v' k → own2 s1 r1 v0 k ∨ w.heap.size ≤ k := fun k hk => (hf k hk).imp (fun x => .inr x) id
  have lt1 : ∀ k, own2 s0 r0 v1 k → k < w.heap.size := fun k hk => by
    rcases hk with rfl | hk
    · exact h1.sh.lt
    · exact foot_lt h1.rf k hk
  have new2 : ∀ k, own2 s1 r1 v' k → ¬ own2 s0 r0 v1 k ∧ k ≠ bs ∧ k ≠ br ∧ w0.heap.size ≤ k := fun k hk => by
    rcases hk with rfl | hk
    · exact hx k (.inl rfl)
    · rcases new k hk with x | x
      · exact hx k x
      · have z := h.bel.size
        have q1 := h.bsz.1
        have q2 := h.bsz.2
        exact ⟨fun y => by have := lt1 k y; omega, by omega, by omega, by omega⟩
  refine ⟨⟨v1, S1, A1, S1', A1', n1, i1, v', S2, A2, S3, A3, n2, i2, k1, hb, fun k hk => ⟨fun x => (new2 k x).1 hk, hy k hk⟩, fun k hk => (new2 k hk).2⟩, hu.cell h.s0c nb, hu.cell h.s1c nb, hu.cell h.r0c nr, hu.cell h.r1c nr, ?_, ⟨Nat.lt_of_lt_of_le h.bsz.1 hu.size, Nat.lt_of_lt_of_le h.bsz.2 hu.size⟩⟩
  have : Upd (fun k => w0.heap.size ≤ k) w0 w := ⟨h.bel.os, h.bel.tape, h.bel.output, h.bel.size, fun k _ hk => h.bel.block k (by omega)⟩
  exact (this.trans (hu.mono (fun k _ x => (hx k x).2.2.2))).to_below

theorem RfAt.new {w : World} {b : Nat} (c : w.heap[b]? = some (.cells #[.slice none 0 0, .bool false] 30)) : RfAt w b (.slice none 0 0) (fun _ => false) (fun _ => false) 0 false :=
  ⟨by omega, by simp [World.cell?, c], by simp [World.cell?, c], fun o => by simp [World.frozen?, c], World.ownsRow_nil _ _ _ _, by simp [Value.ownBlock]⟩

theorem two_start (w w3 : World) (B : Nat) (hB : w3.heap.size = B + 1 + 1) (hs0 : ShAt w3 B (fun _ => false) (fun _ => false) 0 false) (hs1 : ShAt w3 (B + 1) (fun _ => false) (fun _ => false) 0 false)
    (hbel : Below w.heap.size w w3) (hwB : w.heap.size ≤ B) (o1 o4 : Array Value) (h1 : o1 = #[.pointer (some ⟨B, 0, none⟩), .pointer (some ⟨B + 1, 0, none⟩)]) (h4 : o4 = #[.pointer (some ⟨B + 1 + 1 + 1, 0, none⟩), .pointer (some ⟨B + 1 + 1 + 1 + 1, 0, none⟩)]) :
    Two w ((((w3.alloc (.cells o1 26)).alloc (.cells #[.slice none 0 0, .bool false] 30)).alloc (.cells #[.slice none 0 0, .bool false] 30)).alloc (.cells o4 31)) (B + 1 + 1) (B + 1 + 1 + 1 + 1 + 1) B (B + 1) (B + 1 + 1 + 1) (B + 1 + 1 + 1 + 1) := by
  subst h1 h4
  have u : Upd (fun _ => False) w3 ((((w3.alloc (.cells #[.pointer (some ⟨B, 0, none⟩), .pointer (some ⟨B + 1, 0, none⟩)] 26)).alloc (.cells #[.slice none 0 0, .bool false] 30)).alloc (.cells #[.slice none 0 0, .bool false] 30)).alloc (.cells #[.pointer (some ⟨B + 1 + 1 + 1, 0, none⟩), .pointer (some ⟨B + 1 + 1 + 1 + 1, 0, none⟩)] 31)) := ((((Upd.refl _ _).alloc _).alloc _).alloc _).alloc _
  have b0 := hs0.kept u (fun x => x)
  have b1 := hs1.kept u (fun x => x)
  have hp : ∀ (W : World) (o : Obj) (n : Nat), W.heap.size = n → (W.alloc o).heap[n]? = some o := fun W o n e => by subst e; exact heap_alloc_new W o
  have hq : ∀ (W : World) (o : Obj) (n : Nat) (x : Obj), W.heap[n]? = some x → (W.alloc o).heap[n]? = some x := fun W o n x e => (Below.heap_alloc _ _ _ (Array.getElem?_eq_some_iff.1 e).1).trans e
  have c0 := hq _ (.cells #[.pointer (some ⟨B + 1 + 1 + 1, 0, none⟩), .pointer (some ⟨B + 1 + 1 + 1 + 1, 0, none⟩)] 31) _ _ (hq _ (.cells #[.slice none 0 0, .bool false] 30) _ _ (hp (w3.alloc (.cells #[.pointer (some ⟨B, 0, none⟩), .pointer (some ⟨B + 1, 0, none⟩)] 26)) (.cells #[.slice none 0 0, .bool false] 30) (B + 1 + 1 + 1) (by simp [hB])))
  have c1 := hq _ (.cells #[.pointer (some ⟨B + 1 + 1 + 1, 0, none⟩), .pointer (some ⟨B + 1 + 1 + 1 + 1, 0, none⟩)] 31) _ _ (hp ((w3.alloc (.cells #[.pointer (some ⟨B, 0, none⟩), .pointer (some ⟨B + 1, 0, none⟩)] 26)).alloc (.cells #[.slice none 0 0, .bool false] 30)) (.cells #[.slice none 0 0, .bool false] 30) (B + 1 + 1 + 1 + 1) (by simp [hB]))
  have cs := hq _ (.cells #[.pointer (some ⟨B + 1 + 1 + 1, 0, none⟩), .pointer (some ⟨B + 1 + 1 + 1 + 1, 0, none⟩)] 31) _ _ (hq _ (.cells #[.slice none 0 0, .bool false] 30) _ _ (hq _ (.cells #[.slice none 0 0, .bool false] 30) _ _ (hp w3 (.cells #[.pointer (some ⟨B, 0, none⟩), .pointer (some ⟨B + 1, 0, none⟩)] 26) (B + 1 + 1) hB)))
  have cr := hp (((w3.alloc (.cells #[.pointer (some ⟨B, 0, none⟩), .pointer (some ⟨B + 1, 0, none⟩)] 26)).alloc (.cells #[.slice none 0 0, .bool false] 30)).alloc (.cells #[.slice none 0 0, .bool false] 30)) (.cells #[.pointer (some ⟨B + 1 + 1 + 1, 0, none⟩), .pointer (some ⟨B + 1 + 1 + 1 + 1, 0, none⟩)] 31) (B + 1 + 1 + 1 + 1 + 1) (by simp [hB])
  have own : ∀ b r k, own2 b r (.slice none 0 0) k → k = b ∨ k = r := fun b r k hk => by
    rcases hk with rfl | rfl | hk
    · exact .inl rfl
    · exact .inr rfl
    · simp [Value.ownBlock] at hk
  refine ⟨⟨_, _, _, _, _, _, _, _, _, _, _, _, _, _, ⟨b0, RfAt.new c0, (fun e => by cases e), fun x => ?_⟩, ⟨b1, RfAt.new c1, (fun e => by cases e), fun x => ?_⟩, fun k hk => ?_, fun k hk => ?_⟩, by simp [World.cell?, cs], by simp [World.cell?, cs], by simp [World.cell?, cr], by simp [World.cell?, cr], ?_, ?_⟩
  · rcases x with x | x
    · omega
    · simp [Value.ownBlock] at x
  · rcases x with x | x
    · omega
    · simp [Value.ownBlock] at x
  · refine ⟨fun x => ?_, ?_, ?_, ?_⟩
    · rcases own _ _ _ hk with e | e <;> rcases own _ _ _ x with f | f <;> omega
    all_goals rcases own _ _ _ hk with e | e <;> omega
  · refine ⟨?_, ?_, ?_⟩
    all_goals rcases own _ _ _ hk with e | e <;> omega
  · exact hbel.trans ((u.to_below' (fun _ x => x.elim)).mono hbel.size)
  · simp [hB]

set_option maxRecDepth 100000 in
set_option maxHeartbeats 1000000 in
theorem shakedoes_calls (a : Option Addr) (len cap : Nat) (w : World) (ha : IsActs w a len) :
    Calls Try.prog 4 #[.slice a len cap] w fun e w' => e = .returned (.bool true) ∧ Below w.heap.size w w' := by
  have hlen := ha.1
  have Ha := Lib.hid ha.2
  clear ha
  go_enter Try.func4, Try.ntmps4
  go_wp2_with fail
  refine (works_calls _).mono ?_
  rintro e w1 ⟨rfl, hu⟩
  go_wp2_with fail
  refine (new_calls _).mono ?_
  rintro e w2 ⟨rfl, hs0, hu1, hz1⟩
  go_wp2_with fail
  refine (new_calls _).mono ?_
  rintro e w3 ⟨rfl, hs1, hu2, hz2⟩
  go_wp2_with fail
  rw [hz1] at hz2 hs1
  have H0 := two_start w w3 w1.heap.size hz2 (hs0.kept hu2 (fun x => x)) hs1 (((hu.trans' hu1 (fun _ _ x => x)).trans' hu2 (fun _ _ x => x)).to_below' (fun _ x => x.elim)) hu.size _ _ rfl rfl
  have hs0 := hu.size
  generalize w1.heap.size = B at *
  clear hs0 hs1 hu hu1 hu2 hz1 hz2
  go_loopw [6, 7, 8, 9] (fun i _ _ _ wr => ∃ k : Nat, k ≤ len ∧ i = .int .i64 k ∧ Two w wr (B + 1 + 1) (B + 1 + 1 + 1 + 1 + 1) B (B + 1) (B + 1 + 1 + 1) (B + 1 + 1 + 1 + 1)) (fun i _ _ _ _ => len - (intOf i).toNat)
  case atStart => exact ⟨0, Nat.zero_le _, rfl, H0⟩
  case round =>
    clear H0
    obtain ⟨k, hk, rfl, hT⟩ := hrel
    by_cases hlt : k < len ∧ k < 100000
    · obtain ⟨h1, h2⟩ := hlt
      obtain ⟨x, kk, tt, rfl, hx1, hx2, hx3, hx4⟩ := Ha.out k h1
      obtain ⟨xb, xo, xs⟩ := x
      simp only at hx1 hx2
      subst hx2
      have hx3' := (hT.bel.cell (p := ⟨xb, xo + k * 2, none⟩) hx1).trans hx3
      have hx4' := (hT.bel.cell (p := ⟨xb, xo + k * 2 + 1, none⟩) hx1).trans hx4
      have Hx3 := Lib.hid hx3
      have Hx4 := Lib.hid hx4
      clear hx3 hx4
      have h2' : (k : Int) < 100000 := by omega
      clear h2
      have h2b : decide ((k : Int) < 100000) = true := decide_eq_true h2'
      clear h2'
      by_cases h3 : k % 4 = 3
      · have h3b : (((k : Int) % 4) == 3) = true := by rw [beq_iff_eq]; omega
        clear h3
        have c1 := hT.s1c
        have c2 := hT.r1c
        have hT' := hT.drew
        obtain ⟨v0, S0, A0, S0', A0', n0, i0, v1, S1, A1, S1', A1', n1, i1, g0, g1, gx, gy⟩ := hT'.swap
        have HT := Lib.hid hT'
        clear hT hT'
        have Gx := Lib.hid gx
        have Gy := Lib.hid gy
        clear gx gy
        go_wp2_with fail
        go_still_tail 10, (by kernel_rfl)
        change wpList _ _ _ _ _ wr.drew
        go_wp2_with fail
        refine (does_calls (B + 1) (B + 1 + 1 + 1 + 1) kk tt v0 S0 A0 S0' A0' n0 i0 _ g0).mono ?_
        rintro e w4 ⟨rfl, hd⟩
        have hT2 := HT.out.step1 g0 g1 Gx.out Gy.out hd
        clear HT g0 g1 Gx Gy hd c1 c2 hx3' hx4'
        have c1 := hT2.s1c
        have c2 := hT2.r1c
        have hx3' := (hT2.bel.cell (p := ⟨xb, xo + k * 2, none⟩) hx1).trans Hx3.out
        have hx4' := (hT2.bel.cell (p := ⟨xb, xo + k * 2 + 1, none⟩) hx1).trans Hx4.out
        have hT3 := hT2.drew
        obtain ⟨v0, S0, A0, S0', A0', n0, i0, v1, S1, A1, S1', A1', n1, i1, g0, g1, gx, gy⟩ := hT3.swap
        have HT := Lib.hid hT3
        clear hT2 hT3 gx gy g1
        go_wp2_with fail
        go_still_tail 11, (by kernel_rfl)
        change wpList _ _ _ _ _ w4.drew
        go_wp2_with fail
        refine (looks_calls (B + 1) (B + 1 + 1 + 1 + 1) tt v0 S0 A0 S0' A0' n0 i0 _ g0).mono ?_
        rintro e w' ⟨rfl, rfl⟩
        clear g0
        go_wp2
        go_roundw
        case rel => exact ⟨k + 1, by omega, by go_num, HT.out⟩
        case measure => simp [intOf]; omega
      · have h3b : (((k : Int) % 4) == 3) = false := by rw [beq_eq_false_iff_ne]; omega
        clear h3
        have c1 := hT.s0c
        have c2 := hT.r0c
        have hT' := hT.drew
        obtain ⟨v0, S0, A0, S0', A0', n0, i0, v1, S1, A1, S1', A1', n1, i1, g0, g1, gx, gy⟩ := hT'.ex
        have HT := Lib.hid hT'
        clear hT hT'
        have Gx := Lib.hid gx
        have Gy := Lib.hid gy
        clear gx gy
        go_wp2_with fail
        go_still_tail 10, (by kernel_rfl)
        change wpList _ _ _ _ _ wr.drew
        go_wp2_with fail
        refine (does_calls B (B + 1 + 1 + 1) kk tt v0 S0 A0 S0' A0' n0 i0 _ g0).mono ?_
        rintro e w4 ⟨rfl, hd⟩
        have hT2 := HT.out.step0 g0 g1 Gx.out Gy.out hd
        clear HT g0 g1 Gx Gy hd c1 c2 hx3' hx4'
        have c1 := hT2.s0c
        have c2 := hT2.r0c
        have hx3' := (hT2.bel.cell (p := ⟨xb, xo + k * 2, none⟩) hx1).trans Hx3.out
        have hx4' := (hT2.bel.cell (p := ⟨xb, xo + k * 2 + 1, none⟩) hx1).trans Hx4.out
        have hT3 := hT2.drew
        obtain ⟨v0, S0, A0, S0', A0', n0, i0, v1, S1, A1, S1', A1', n1, i1, g0, g1, gx, gy⟩ := hT3.ex
        have HT := Lib.hid hT3
        clear hT2 hT3 gx gy g1
        go_wp2_with fail
        go_still_tail 11, (by kernel_rfl)
        change wpList _ _ _ _ _ w4.drew
        go_wp2_with fail
        refine (looks_calls B (B + 1 + 1 + 1) tt v0 S0 A0 S0' A0' n0 i0 _ g0).mono ?_
        rintro e w' ⟨rfl, rfl⟩
        clear g0
        go_wp2
        go_roundw
        case rel => exact ⟨k + 1, by omega, by go_num, HT.out⟩
        case measure => simp [intOf]; omega
    · have HT := Lib.hid hT
      clear hT
      by_cases hl : k < len
      · have h2b : decide ((k : Int) < 100000) = false := by
          rw [decide_eq_false_iff_not]; omega
        clear hlt
        go_wp2
        go_ret
        exact ⟨rfl, HT.out.bel⟩
      · have hkl : k = len := by omega
        subst hkl
        clear hlt hl
        go_wp2
        go_ret
        exact ⟨rfl, HT.out.bel⟩
end Go.Proofs.Ytfoknglgnbceaaa
