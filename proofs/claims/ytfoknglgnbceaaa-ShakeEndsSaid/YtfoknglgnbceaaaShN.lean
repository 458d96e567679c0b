import Derived.Test.YtfoknglgnbceaaaShM
namespace Go.Proofs.Ytfoknglgnbceaaa
open Go.RowKit

def IsInts (w : World) (a : Option Addr) (len : Nat) : Prop :=
  len ≤ 9223372036854775807 ∧ ∀ i, i < len → ∃ x z, a = some x ∧ x.block < w.heap.size ∧ x.spot = none ∧ w.cell? ⟨x.block, x.off + i, none⟩ = some (.int .i64 z) ∧ -9223372036854775808 ≤ z ∧ z ≤ 9223372036854775807

structure LaidAt (w : World) (g : Nat) (f : Nat → Bool) : Prop where
  c : ∀ i, i < 9 → w.cell? ⟨g, i, none⟩ = some (.bool (f i))
  fr : ∀ o, w.frozen? ⟨g, o, none⟩ = false
theorem LaidAt.lt {w : World} {g : Nat} {f : Nat → Bool} (h : LaidAt w g f) : g < w.heap.size := World.block_lt_of_cell? w _ (h.c 0 (by omega))
theorem LaidAt.kept {F : Nat → Prop} {w w' : World} {g : Nat} {f : Nat → Bool} (h : LaidAt w g f) (u : Upd F w w') (hf : ¬ F g) : LaidAt w' g f :=
  ⟨fun i hi => u.cell (h.c i hi) hf, fun o => (u.frozen (a := ⟨g, o, none⟩) h.lt hf).trans (h.fr o)⟩
theorem LaidAt.set {w : World} {g : Nat} {f : Nat → Bool} (h : LaidAt w g f) (k : Nat) (hk : k < 9) (x : Bool) : LaidAt (w.setCell ⟨g, k, none⟩ (.bool x)) g (put f k x) := by
  refine ⟨fun i hi => ?_, fun o => by rw [World.frozen?_setCell]; exact h.fr o⟩
  by_cases e : i = k
  · subst e; rw [put_same]; exact World.cell?_setCell_same _ _ _ (h.c i hi)
  · rw [put_other _ _ _ _ e]; exact cell_set_ne (h.c i hi) (ne_off (by omega))

/-- Between two rounds of the inner loop: i threads were laid at least. -/
structure EndSt (w0 w : World) (b g : Nat) (S A f : Nat → Bool) (n i : Nat) : Prop where
  sh : ShAt w b S A n true
  ld : LaidAt w g f
  eq : ∀ j, j < n → f (j + 1) = S j
  cn : i ≤ cnt S n
  up : Upd (fun k => w0.heap.size ≤ k) w0 w
  ne : b ≠ g
  hb : w0.heap.size ≤ b
  hg : w0.heap.size ≤ g

theorem EndSt.turn {w0 w w' : World} {b g : Nat} {S A S' A' f : Nat → Bool} {n i : Nat} (h : EndSt w0 w b g S A f n i) (hs : ShAt w' b S' A' n true) (hS : S' = S) (u : Upd (fun k => k = b) w w') : EndSt w0 w' b g S' A' f n i := by
  subst hS
  exact ⟨hs, h.ld.kept u (fun e => h.ne e.symm), h.eq, h.cn, h.up.trans (u.mono (fun k _ e => by subst e; exact h.hb)), h.ne, h.hb, h.hg⟩
theorem EndSt.born {w0 w w' : World} {b g : Nat} {S A f : Nat → Bool} {n i r : Nat} (h : EndSt w0 w b g S A f n i) (hr : r < n) (hn : n < 8) (hs : ShAt w' b (put S n (S r)) (put A n false) (n + 1) true) (u : Upd (fun k => k = b) w w') :
    EndSt w0 (w'.setCell ⟨g, n + 1, none⟩ (.bool (f (r + 1)))) b g (put S n (S r)) (put A n false) (put f (n + 1) (f (r + 1))) (n + 1) i := by
  have hl := h.ld.kept u (fun e => h.ne e.symm)
  have u2 : Upd (fun k => k = g) w' (w'.setCell ⟨g, n + 1, none⟩ (.bool (f (r + 1)))) := (Upd.refl _ _).set (by rfl) _
  refine ⟨hs.kept u2 h.ne, hl.set _ (by omega) _, fun j hj => ?_, ?_, (h.up.trans (u.mono (fun k _ e => by subst e; exact h.hb))).trans (u2.mono (fun k _ e => by subst e; exact h.hg)), h.ne, h.hb, h.hg⟩
  · by_cases e : j = n
    · subst e; rw [put_same, put_same]; exact h.eq r hr
    · rw [put_other _ _ _ _ (by omega), put_other _ _ _ _ e]; exact h.eq j (by omega)
  · simp only [cnt]
    rw [cnt_congr (put S n (S r)) S n (fun i hi => put_other _ _ _ _ (by omega))]
    exact Nat.le_trans h.cn (by omega)
theorem EndSt.lay {w0 w w' : World} {b g : Nat} {S A f : Nat → Bool} {n i j : Nat} (h : EndSt w0 w b g S A f n i) (hj : j < n) (hS : S j = false) (hs : ShAt w' b (put S j true) (put A j false) n true) (u : Upd (fun k => k = b) w w') :
    EndSt w0 (w'.setCell ⟨g, j + 1, none⟩ (.bool true)) b g (put S j true) (put A j false) (put f (j + 1) true) n (i + 1) := by
  have hl := h.ld.kept u (fun e => h.ne e.symm)
  have u2 : Upd (fun k => k = g) w' (w'.setCell ⟨g, j + 1, none⟩ (.bool true)) := (Upd.refl _ _).set (by rfl) _
  have hle := h.sh.le
  refine ⟨hs.kept u2 h.ne, hl.set _ (by omega) _, fun q hq => ?_, ?_, (h.up.trans (u.mono (fun k _ e => by subst e; exact h.hb))).trans (u2.mono (fun k _ e => by subst e; exact h.hg)), h.ne, h.hb, h.hg⟩
  · by_cases e : q = j
    · subst e; rw [put_same, put_same]
    · rw [put_other _ _ _ _ (by omega), put_other _ _ _ _ e]; exact h.eq q hq
  · rw [cnt_put S n j hj hS]; have := h.cn; omega

set_option maxRecDepth 100000 in
set_option maxHeartbeats 2000000 in
theorem shakeends_calls (a0 : Int) (a : Option Addr) (len cap : Nat) (a2 : Int) (w : World) (q0 : -9223372036854775808 ≤ a0) (q1 : a0 ≤ 9223372036854775807) (q2 : -9223372036854775808 ≤ a2) (q3 : a2 ≤ 9223372036854775807) (ha : IsInts w a len) :
    Calls Try.prog 5 #[.int .i64 a0, .slice a len cap, .int .i64 a2] w fun e w' => e = .returned (.bool true) ∧ Below w.heap.size w w' := by
  have hlen := ha.1
  have Ha := Lib.hid ha.2
  clear ha
  have hmk : ∀ w, (Instr.makeSlice 43 (.int .i64 9) (.int .i64 9)).run Try.prog w = .ok (.slice (some ⟨w.heap.size, 0, none⟩) 9 9) (w.alloc (.cells (Array.replicate 9 (.bool false)) 4)) := fun _ => by kernel_rfl
  go_enter Try.func5, Try.ntmps5
  go_wp2_with fail
  refine (works_calls _).mono ?_
  rintro e w1 ⟨rfl, hu⟩
  go_wp2_with fail
  refine (new_calls _).mono ?_
  rintro e w2 ⟨rfl, hs, hu1, -⟩
  have hu2 : Upd (fun k => w.heap.size ≤ k) w w2 := (hu.trans hu1).mono (fun _ _ x => x.elim)
  have hb := hu.size
  generalize w1.heap.size = b at *
  clear hu hu1
  have hp := fun w => pick_calls a0 4 w q0 q1 (by omega) (by omega)
  have Hp := Lib.hid hp
  clear hp
  go_wp2_with fail
  go_loopw [9, 10] (fun n i wr => ∃ k : Nat, k ≤ 4 ∧ n = .int .i64 k ∧ i = .int .i64 k ∧ (∃ S A, ShAt wr b S A k false) ∧ Upd (fun k => w.heap.size ≤ k) w wr) (fun _ i _ => 10 - (intOf i).toNat)
  case atStart => exact ⟨0, by omega, rfl, rfl, ⟨_, _, hs⟩, hu2⟩
  case round =>
    clear hs hu2
    obtain ⟨k, hk, rfl, rfl, ⟨S, A, hs⟩, hu⟩ := hrel
    go_wp2_with fail
    refine (Hp.out _).mono ?_
    rintro e w' ⟨⟨r, hr, rfl⟩, rfl⟩
    by_cases hkr : k ≤ r
    · have h8 : k < 8 := by omega
      go_wp2_with (go_at_call 11; refine (born_ok _ _ _ _ _ _ _ hs h8 rfl).mono ?_; rintro e w4 ⟨rfl, hs4, hu4⟩)
      go_roundw
      case rel => exact ⟨k + 1, by omega, by go_num, by go_num, ⟨_, _, hs4⟩, hu.trans (hu4.mono (fun k _ e => by subst e; exact hb))⟩
      case measure => simp [intOf]; omega
    · clear Hp
      have hk8 : k ≤ 8 := by omega
      have hp := fun w => pick_calls a2 4 w q2 q3 (by omega) (by omega)
      have Hp := Lib.hid hp
      clear hp
      go_wp2_with fail
      clear hkr hr hk
      obtain ⟨wo, rfl⟩ : ∃ wo : World, wo = wr := ⟨_, rfl⟩
      go_loopw [9, 13, 14] (fun n at_ c wr => ∃ n' at' c' : Nat, n' ≤ 8 ∧ at' ≤ 24 * c' ∧ c' ≤ 4 ∧ n = .int .i64 n' ∧ at_ = .int .i64 at' ∧ c = .int .i64 c' ∧ (∃ S A, ShAt wr b S A n' false) ∧ Upd (fun k => w.heap.size ≤ k) w wr) (fun _ _ c _ => 10 - (intOf c).toNat)
      case atStart => exact ⟨k, 0, 0, hk8, by omega, by omega, rfl, rfl, rfl, ⟨_, _, hs⟩, hu⟩
      case round =>
        clear hs hu hk8
        obtain ⟨n, at', c, hn, hat, hc, rfl, rfl, rfl, ⟨S, A, hs⟩, hu⟩ := hrel
        go_wp2_with fail
        refine (Hp.out _).mono ?_
        rintro e w' ⟨⟨r, hr, rfl⟩, rfl⟩
        by_cases hcr : c ≤ r
        · go_wp2_with fail
          refine (begin_ok _ _ _ _ _ hs).mono ?_
          rintro e w4 ⟨rfl, ⟨S4, A4, hs4, hz4⟩, hu4⟩
          have hu5 := hu.trans (hu4.mono (fun k _ e => by subst e; exact hb))
          have Hz := Lib.hid hz4
          clear hz4 hu4 hs hu
          go_wp2_with fail
          have hgb : b ≠ w4.heap.size := by have := hs4.lt; omega
          have hgw := hu5.size
          have hE : EndSt w (w4.alloc (.cells (Array.replicate 9 (.bool false)) 4)) b w4.heap.size S4 A4 (fun _ => false) n 0 := by
            refine ⟨hs4.kept ((Upd.refl (fun _ => False) _).alloc _) (fun x => x), ⟨fun i hi => ?_, fun o => by simp⟩, fun j hj => ((Hz.out j hj).1).symm, Nat.zero_le _, hu5.alloc _, hgb, hb, hgw⟩
            simp [hi]
          clear hs4 Hz hu5
          generalize w4.heap.size = g at *
          have hc3 : c ≤ 3 := by omega
          clear hcr hr
          obtain ⟨wo, rfl⟩ : ∃ wo : World, wo = wr := ⟨_, rfl⟩
          go_loopw [9, 13, 17] (fun n at_ i wr => ∃ n' at' i' : Nat, n' ≤ 8 ∧ at' ≤ 24 * c + i' ∧ n = .int .i64 n' ∧ at_ = .int .i64 at' ∧ i = .int .i64 i' ∧ ∃ S A f, EndSt w wr b g S A f n' i') (fun _ _ i _ => 24 - (intOf i).toNat)
          case atStart => exact ⟨n, at', 0, hn, by omega, rfl, rfl, rfl, S4, A4, _, hE⟩
          case round =>
            clear hE hn hat
            obtain ⟨n, at', i, hn, hat, rfl, rfl, rfl, S, A, f, hE⟩ := hrel
            have hi8 : i ≤ 8 := Nat.le_trans hE.cn (Nat.le_trans (cnt_le _ _) hn)
            have hsh := hE.sh
            rcases left_spec S n with ⟨hl, hall⟩ | ⟨j, hj, hl, hSj⟩
            · have Hl := Lib.hid hl
              have Hall := Lib.hid hall
              clear hl hall
              go_wp2_with fail
              refine (left_calls _ _ _ _ _ _ hsh).mono ?_
              rintro e w' ⟨rfl, rfl⟩
              rw [Hl.out]
              go_wp2_with fail
              refine (left_calls _ _ _ _ _ _ hsh).mono ?_
              rintro e w' ⟨rfl, rfl⟩
              rw [Hl.out]
              go_wp2_with fail
              refine (end_ok _ _ _ _ _ hsh Hl.out).mono ?_
              rintro e w6 ⟨rfl, hs6, hu6⟩
              go_wp2_with fail
              refine (end_bad _ _ _ _ _ _ hs6 (by simp)).mono ?_
              rintro e w' ⟨rfl, rfl⟩
              have hld := hE.ld.kept hu6 (fun e => hE.ne e.symm)
              have hu7 := hE.up.trans (hu6.mono (fun k _ e => by subst e; exact hb))
              have Heq := Lib.hid hE.eq
              clear hsh hE hu6
              go_wp2_with fail
              obtain ⟨wo, rfl⟩ : ∃ wo : World, wo = w6 := ⟨_, rfl⟩
              go_loop [29] (fun i => ∃ q : Nat, q ≤ n ∧ i = .int .i64 ((q : Int) + 1)) (fun i => n + 1 - (intOf i).toNat)
              case atStart => exact ⟨0, Nat.zero_le _, rfl⟩
              case round =>
                obtain ⟨q, hq, rfl⟩ := hrel
                by_cases hqn : q < n
                · have hsc : scB S n false ((q : Int) + 1) = true := by simp [scB, isB_in hqn]
                  have Hsc := Lib.hid hsc
                  have hcell := hld.c (q + 1) (by omega)
                  rw [Heq.out q hqn, Hall.out q hqn] at hcell
                  clear hsc
                  go_wp2_with (go_at_call 14; refine (scanned_calls _ _ _ _ _ _ _ hs6).mono ?_; rintro e w' ⟨rfl, rfl⟩; rw [Hsc.out])
                  go_round
                  case rel => exact ⟨q + 1, by omega, by go_num⟩
                  case measure => simp [intOf]; omega
                · have hqe : q = n := by omega
                  subst hqe
                  go_wp2_with fail
                  go_roundw
                  case rel => exact ⟨q, at', c + 1, hn, by omega, by omega, by go_num, by go_num, by go_num, ⟨_, _, hs6⟩, hu7⟩
                  case measure => simp [intOf]; omega
            · have hfj := hE.eq j hj
              rw [hSj] at hfj
              have hcj := hE.ld.c (j + 1) (by omega)
              rw [hfj] at hcj
              have Hl := Lib.hid hl
              have HSj := Lib.hid hSj
              have hKb : (((j : Int) + 1) == 0) = false := by rw [beq_eq_false_iff_ne]; omega
              clear hl hSj hfj
              have h2c : at' < 2000 := by omega
              by_cases hbn : at' < len ∧ n < 8
              · obtain ⟨hb1, hb2⟩ := hbn
                obtain ⟨x, z, rfl, hx1, hx2, hx3, z1, z2⟩ := Ha.out at' hb1
                obtain ⟨xb, xo, xs⟩ := x
                simp only at hx1 hx2
                subst hx2
                have hx4 : wr.cell? ⟨xb, xo + at', none⟩ = some (.int .i64 z) := (hE.up.to_below.cell (p := ⟨xb, xo + at', none⟩) hx1).trans hx3
                clear hx3
                have hn1 : (1 : Int) ≤ n := by omega
                go_wp2_with fail
                refine (left_calls _ _ _ _ _ _ hsh).mono ?_
                rintro e w' ⟨rfl, rfl⟩
                rw [Hl.out]
                go_wp2_with fail
                refine (pick_calls z n _ z1 z2 (by omega) (by omega)).mono ?_
                rintro e w' ⟨⟨r, hr, rfl⟩, rfl⟩
                have hrn : r < n := by omega
                go_wp2_with fail
                refine (born_ok _ _ _ _ _ _ _ hsh hb2 (by simp [bornOk, isB]; omega)).mono ?_
                rintro e w6 ⟨rfl, hs6, hu6⟩
                have hv : (decide (1 + (r : Int) = 0) || scB S n true (1 + (r : Int))) = S r := by
                  rw [Int.add_comm, scB_at hrn]; simp; omega
                rw [hv] at hs6
                have hE6 := hE.born hrn hb2 hs6 hu6
                have hfr := hE.eq r hrn
                have hlc : w6.cell? ⟨g, 1 + r, none⟩ = some (.bool (f (r + 1))) := by rw [Nat.add_comm]; exact (hE.ld.kept hu6 (fun e => hE.ne e.symm)).c (r + 1) (by omega)
                have hlc2 := (hE.ld.kept hu6 (fun e => hE.ne e.symm)).c (n + 1) (by omega)
                have hlf := (hE.ld.kept hu6 (fun e => hE.ne e.symm)).fr (n + 1)
                have Hfr := Lib.hid hfr
                clear hE hsh hs6 hu6 hfr hv hcj hx4
                go_wp2_with fail
                have hsh6 := hE6.sh
                have hl6 : (w6.setCell ⟨g, n + 1, none⟩ (.bool (f (r + 1)))).cell? ⟨g, 1 + r, none⟩ = some (.bool (f (r + 1))) := by
                  have := hE6.ld.c (1 + r) (by omega)
                  rw [put_other _ _ _ _ (by omega : 1 + r ≠ n + 1), Nat.add_comm 1 r] at this
                  rw [Nat.add_comm 1 r]; exact this
                have hc6 : (w6.setCell ⟨g, n + 1, none⟩ (.bool (f (r + 1)))).cell? ⟨g, j + 1, none⟩ = some (.bool false) := by
                  have := hE6.ld.c (j + 1) (by omega)
                  rw [hE6.eq j (by omega), put_other _ _ _ _ (by omega : j ≠ n), HSj.out] at this
                  exact this
                have hsc : scB (put S n (S r)) (n + 1) true ((n : Int) + 1) = f (r + 1) := by rw [scB_at (by omega), put_same]; exact Hfr.out.symm
                have Hsc := Lib.hid hsc
                have hS7 : put S n (S r) j = false := by rw [put_other _ _ _ _ (by omega)]; exact HSj.out
                have HS7 := Lib.hid hS7
                clear hsc hS7 hlc hlc2 hlf
                refine (scanned_calls _ _ _ _ _ _ _ hsh6).mono ?_
                rintro e w' ⟨rfl, rfl⟩
                rw [Hsc.out]
                generalize w6.setCell ⟨g, n + 1, none⟩ (.bool (f (r + 1))) = w7 at *
                clear hsh6
                have hsh7 := hE6.sh
                have hlb := left_ne _ _ _ (by omega : j < n + 1) HS7.out
                have Hlb := Lib.hid hlb
                clear hlb
                go_wp2_with fail
                refine (end_bad _ _ _ _ _ _ hsh7 (fun x => Hlb.out x.2)).mono ?_
                rintro e w' ⟨rfl, rfl⟩
                by_cases hpar : (at' + 1) % 2 = 0
                · have hpb : ((((at' : Int) + 1) % 2) == 0) = true := by rw [beq_iff_eq]; omega
                  clear hpar
                  go_wp2_with fail
                  refine (ask_any _ _ _ _ _ _ _ hsh7).mono ?_
                  rintro e w8 ⟨⟨xx, rfl⟩, ⟨A8, hs8⟩, hu8⟩
                  have hE8 := hE6.turn hs8 rfl hu8
                  clear hs8 hu8 hsh7
                  have hsh9 := hE8.sh
                  go_wp2_with fail
                  refine (lay_ok _ _ _ _ _ _ _ hsh9 ⟨isB_in (by omega : j < n + 1), by rw [scB_at (by omega : j < n + 1)]; exact HS7.out⟩).mono ?_
                  rintro e w9 ⟨rfl, hs9, hu9⟩
                  rw [show ((j : Int) + 1).toNat - 1 = j by omega] at hs9
                  go_wp2_with fail
                  refine (lay_bad _ _ _ _ _ _ _ hs9 (by rw [scB_at (by omega : j < n + 1), put_same]; simp)).mono ?_
                  rintro e w' ⟨rfl, rfl⟩
                  have hE9 := hE8.lay (by omega) HS7.out hs9 hu9
                  have hlk := hE8.ld.kept hu9 (fun e => hE8.ne e.symm)
                  have hk1 := hlk.c (j + 1) (by have := hE8.sh.le; omega)
                  have hk2 := hlk.fr (j + 1)
                  clear hlk hsh9 hs9 hu9
                  go_wp2_with fail
                  go_roundw
                  case rel => exact ⟨n + 1, at' + 1, i + 1, by omega, by omega, by go_num, by go_num, by go_num, ⟨_, _, _, hE9⟩⟩
                  case measure => simp [intOf]; omega
                · have hpb : ((((at' : Int) + 1) % 2) == 0) = false := by rw [beq_eq_false_iff_ne]; omega
                  clear hpar hsh7
                  have hsh9 := hE6.sh
                  go_wp2_with fail
                  refine (lay_ok _ _ _ _ _ _ _ hsh9 ⟨isB_in (by omega : j < n + 1), by rw [scB_at (by omega : j < n + 1)]; exact HS7.out⟩).mono ?_
                  rintro e w9 ⟨rfl, hs9, hu9⟩
                  rw [show ((j : Int) + 1).toNat - 1 = j by omega] at hs9
                  go_wp2_with fail
                  refine (lay_bad _ _ _ _ _ _ _ hs9 (by rw [scB_at (by omega : j < n + 1), put_same]; simp)).mono ?_
                  rintro e w' ⟨rfl, rfl⟩
                  have hE9 := hE6.lay (by omega) HS7.out hs9 hu9
                  have hlk := hE6.ld.kept hu9 (fun e => hE6.ne e.symm)
                  have hk1 := hlk.c (j + 1) (by have := hE6.sh.le; omega)
                  have hk2 := hlk.fr (j + 1)
                  clear hlk hsh9 hs9 hu9
                  go_wp2_with fail
                  go_roundw
                  case rel => exact ⟨n + 1, at' + 1, i + 1, by omega, by omega, by go_num, by go_num, by go_num, ⟨_, _, _, hE9⟩⟩
                  case measure => simp [intOf]; omega

              · have HS7 := HSj
                by_cases hal : at' < len
                · have hn8 : (n : Int) < 8 → False := fun h => hbn ⟨hal, by omega⟩
                  have hn8b : (8 : Int) ≤ n := by omega
                  clear hn8 hbn
                  go_wp2_with fail
                  refine (left_calls _ _ _ _ _ _ hsh).mono ?_
                  rintro e w' ⟨rfl, rfl⟩
                  rw [Hl.out]
                  clear hsh
                  have hsh7 := hE.sh
                  have hlb := left_ne _ _ _ hj HS7.out
                  have Hlb := Lib.hid hlb
                  clear hlb
                  go_wp2_with fail
                  refine (end_bad _ _ _ _ _ _ hsh7 (fun x => Hlb.out x.2)).mono ?_
                  rintro e w' ⟨rfl, rfl⟩
                  by_cases hpar : (at' + 1) % 2 = 0
                  · have hpb : ((((at' : Int) + 1) % 2) == 0) = true := by rw [beq_iff_eq]; omega
                    clear hpar
                    go_wp2_with fail
                    refine (ask_any _ _ _ _ _ _ _ hsh7).mono ?_
                    rintro e w8 ⟨⟨xx, rfl⟩, ⟨A8, hs8⟩, hu8⟩
                    have hE8 := hE.turn hs8 rfl hu8
                    clear hs8 hu8 hsh7
                    have hsh9 := hE8.sh
                    go_wp2_with fail
                    refine (lay_ok _ _ _ _ _ _ _ hsh9 ⟨isB_in hj, by rw [scB_at hj]; exact HS7.out⟩).mono ?_
                    rintro e w9 ⟨rfl, hs9, hu9⟩
                    rw [show ((j : Int) + 1).toNat - 1 = j by omega] at hs9
                    go_wp2_with fail
                    refine (lay_bad _ _ _ _ _ _ _ hs9 (by rw [scB_at hj, put_same]; simp)).mono ?_
                    rintro e w' ⟨rfl, rfl⟩
                    have hE9 := hE8.lay hj HS7.out hs9 hu9
                    have hlk := hE8.ld.kept hu9 (fun e => hE8.ne e.symm)
                    have hk1 := hlk.c (j + 1) (by have := hE8.sh.le; omega)
                    have hk2 := hlk.fr (j + 1)
                    clear hlk hsh9 hs9 hu9
                    go_wp2_with fail
                    go_roundw
                    case rel => exact ⟨n, at' + 1, i + 1, by omega, by omega, by go_num, by go_num, by go_num, ⟨_, _, _, hE9⟩⟩
                    case measure => simp [intOf]; omega
                  · have hpb : ((((at' : Int) + 1) % 2) == 0) = false := by rw [beq_eq_false_iff_ne]; omega
                    clear hpar hsh7
                    have hsh9 := hE.sh
                    go_wp2_with fail
                    refine (lay_ok _ _ _ _ _ _ _ hsh9 ⟨isB_in hj, by rw [scB_at hj]; exact HS7.out⟩).mono ?_
                    rintro e w9 ⟨rfl, hs9, hu9⟩
                    rw [show ((j : Int) + 1).toNat - 1 = j by omega] at hs9
                    go_wp2_with fail
                    refine (lay_bad _ _ _ _ _ _ _ hs9 (by rw [scB_at hj, put_same]; simp)).mono ?_
                    rintro e w' ⟨rfl, rfl⟩
                    have hE9 := hE.lay hj HS7.out hs9 hu9
                    have hlk := hE.ld.kept hu9 (fun e => hE.ne e.symm)
                    have hk1 := hlk.c (j + 1) (by have := hE.sh.le; omega)
                    have hk2 := hlk.fr (j + 1)
                    clear hlk hsh9 hs9 hu9
                    go_wp2_with fail
                    go_roundw
                    case rel => exact ⟨n, at' + 1, i + 1, by omega, by omega, by go_num, by go_num, by go_num, ⟨_, _, _, hE9⟩⟩
                    case measure => simp [intOf]; omega

                · clear hbn
                  go_wp2_with fail
                  refine (left_calls _ _ _ _ _ _ hsh).mono ?_
                  rintro e w' ⟨rfl, rfl⟩
                  rw [Hl.out]
                  clear hsh
                  have hsh7 := hE.sh
                  have hlb := left_ne _ _ _ hj HS7.out
                  have Hlb := Lib.hid hlb
                  clear hlb
                  go_wp2_with fail
                  refine (end_bad _ _ _ _ _ _ hsh7 (fun x => Hlb.out x.2)).mono ?_
                  rintro e w' ⟨rfl, rfl⟩
                  by_cases hpar : (at' + 1) % 2 = 0
                  · have hpb : ((((at' : Int) + 1) % 2) == 0) = true := by rw [beq_iff_eq]; omega
                    clear hpar
                    go_wp2_with fail
                    refine (ask_any _ _ _ _ _ _ _ hsh7).mono ?_
                    rintro e w8 ⟨⟨xx, rfl⟩, ⟨A8, hs8⟩, hu8⟩
                    have hE8 := hE.turn hs8 rfl hu8
                    clear hs8 hu8 hsh7
                    have hsh9 := hE8.sh
                    go_wp2_with fail
                    refine (lay_ok _ _ _ _ _ _ _ hsh9 ⟨isB_in hj, by rw [scB_at hj]; exact HS7.out⟩).mono ?_
                    rintro e w9 ⟨rfl, hs9, hu9⟩
                    rw [show ((j : Int) + 1).toNat - 1 = j by omega] at hs9
                    go_wp2_with fail
                    refine (lay_bad _ _ _ _ _ _ _ hs9 (by rw [scB_at hj, put_same]; simp)).mono ?_
                    rintro e w' ⟨rfl, rfl⟩
                    have hE9 := hE8.lay hj HS7.out hs9 hu9
                    have hlk := hE8.ld.kept hu9 (fun e => hE8.ne e.symm)
                    have hk1 := hlk.c (j + 1) (by have := hE8.sh.le; omega)
                    have hk2 := hlk.fr (j + 1)
                    clear hlk hsh9 hs9 hu9
                    go_wp2_with fail
                    go_roundw
                    case rel => exact ⟨n, at' + 1, i + 1, by omega, by omega, by go_num, by go_num, by go_num, ⟨_, _, _, hE9⟩⟩
                    case measure => simp [intOf]; omega
                  · have hpb : ((((at' : Int) + 1) % 2) == 0) = false := by rw [beq_eq_false_iff_ne]; omega
                    clear hpar hsh7
                    have hsh9 := hE.sh
                    go_wp2_with fail
                    refine (lay_ok _ _ _ _ _ _ _ hsh9 ⟨isB_in hj, by rw [scB_at hj]; exact HS7.out⟩).mono ?_
                    rintro e w9 ⟨rfl, hs9, hu9⟩
                    rw [show ((j : Int) + 1).toNat - 1 = j by omega] at hs9
                    go_wp2_with fail
                    refine (lay_bad _ _ _ _ _ _ _ hs9 (by rw [scB_at hj, put_same]; simp)).mono ?_
                    rintro e w' ⟨rfl, rfl⟩
                    have hE9 := hE.lay hj HS7.out hs9 hu9
                    have hlk := hE.ld.kept hu9 (fun e => hE.ne e.symm)
                    have hk1 := hlk.c (j + 1) (by have := hE.sh.le; omega)
                    have hk2 := hlk.fr (j + 1)
                    clear hlk hsh9 hs9 hu9
                    go_wp2_with fail
                    go_roundw
                    case rel => exact ⟨n, at' + 1, i + 1, by omega, by omega, by go_num, by go_num, by go_num, ⟨_, _, _, hE9⟩⟩
                    case measure => simp [intOf]; omega

        · clear Hp hs
          go_wp2_with fail
          go_ret
          exact ⟨rfl, hu.to_below⟩
end Go.Proofs.Ytfoknglgnbceaaa
