/- Lex: the law LexJoined. -/
import Derived.Test.YtecoahdeafobkaaLxU
import Derived.Outline
namespace Go.Proofs.Ytecoahdeafobkaa
open Go.RowKit
set_option linter.unusedVariables false
set_option linter.unusedSimpArgs false

theorem tokens_any (s : ByteArray) (hs : Small s) : ∃ b : Bool, (b = true ↔ tokErr s) ∧ ∀ w, Calls Try.prog 12 #[.string s] w fun e w' => ∃ (A : Option Addr) (n cap : Nat) (er pl : Int), e = .returned (.tuple #[.slice A n cap, .int .i64 er, .int .i64 pl]) ∧ New w w' ∧ (er != 0) = b ∧ (b = true → A = none ∧ n = 0 ∧ cap = 0) := by
  by_cases h : tokErr s
  · obtain ⟨er, pl, h0, hc⟩ := tokens_bad s hs h
    exact ⟨true, by simp [h], fun w => (hc w).mono fun e w' ⟨he, hn⟩ => ⟨none, 0, 0, er, pl, he, hn, h0, fun _ => ⟨rfl, rfl, rfl⟩⟩⟩
  · exact ⟨false, by simp [h], fun w => (tokens_good s hs h w).mono fun e w' ⟨g, cap, he, hn, _⟩ => ⟨_, _, cap, 0, 0, he, hn, rfl, fun h => absurd h (by simp)⟩⟩

theorem joined_bad (s t u : ByteArray) (hu : u = s ++ ⟨#[10]⟩ ++ t) (hs : Small s) (ht : Small t) (huS : Small u) (hsz : (s.size : Int) + t.size + 1 ≤ 65536) (h : tokErr s ∨ tokErr t) (h2 : tokErr u) (w : World) :
    Calls Try.prog 7 #[.string s, .string t] w fun e w' => e = .returned (.bool true) ∧ New w w' := by
  obtain ⟨b1, hb1, c1⟩ := tokens_any s hs
  obtain ⟨b2, hb2, c2⟩ := tokens_any t ht
  obtain ⟨er, pl, h0, c3⟩ := tokens_bad u huS h2
  have H1 := Lib.hid c1
  have H2 := Lib.hid c2
  have H3 := Lib.hid c3
  have hb : b1 = true ∨ b2 = true := by rcases h with h | h; exact .inl (hb1.2 h); exact .inr (hb2.2 h)
  have hsle := hs.le
  have htle := ht.le
  have hd1 : decide ((65536 : Int) < (s.size : Int) + t.size + 1) = false := by rw [decide_eq_false_iff_not]; omega
  clear h h2 hb1 hb2 c1 c2 c3 hs ht huS hsz
  subst hu
  go_enter Try.func7, Try.ntmps7
  go_wp2_with (first
    | (go_at_call 9; refine (works_calls _).mono ?_; rintro e w1 ⟨rfl, hu1⟩; have HU1 := Lib.hid hu1; clear hu1))
  refine (H1.out _).mono ?_
  rintro e w2 ⟨A, n, cap, er1, pl1, rfl, hu2, e1, -⟩
  have HU2 := Lib.hid (HU1.out.trans hu2)
  clear hu2
  go_wp2_with fail
  refine (H2.out _).mono ?_
  rintro e w3 ⟨A2, n2, cap2, er2, pl2, rfl, hu3, e2, -⟩
  have HU3 := Lib.hid (HU2.out.trans hu3)
  clear hu3
  go_wp2_with fail
  refine (H3.out _).mono ?_
  rintro e w4 ⟨rfl, hu4⟩
  have HU4 := Lib.hid (HU3.out.trans hu4)
  clear hu4
  rcases hb with rfl | rfl
  · go_wp2_with fail
    go_ret
    exact ⟨rfl, HU4.out⟩
  · cases b1
    all_goals
      go_wp2_with fail
      go_ret
      exact ⟨rfl, HU4.out⟩

attribute [local go_sem high] eqTok
theorem no_mul (g j : Nat) : (⟨g, j, none⟩ : Addr) = ⟨g, j, none⟩ := rfl

set_option maxHeartbeats 4000000 in
theorem joined_good (s t u : ByteArray) (hu : u = s ++ ⟨#[10]⟩ ++ t) (hs : Small s) (ht : Small t) (huS : Small u) (hsz : (s.size : Int) + t.size + 1 ≤ 65536) (h1 : ¬ tokErr s) (h2 : ¬ tokErr t) (h3 : ¬ tokErr u)
    (L M N : List Tok) (hL : (toks s 0).1 = L) (hM : (toks t 0).1 = M) (hN : (toks u 0).1 = N) (hjoin : N = L.dropLast ++ M.map (fun x => x.to (x.a + (s.size + 1)))) (hL0 : 0 < L.length) (hM0 : 0 < M.length) (w : World) :
    Calls Try.prog 7 #[.string s, .string t] w fun e w' => e = .returned (.bool true) ∧ New w w' := by
  have hll := toks_len s _ 0 rfl (Nat.zero_le _)
  have hml := toks_len t _ 0 rfl (Nat.zero_le _)
  have c1 := tokens_good s hs h1
  have c2 := tokens_good t ht h2
  have c3 := tokens_good u huS h3
  rw [hL] at hll c1
  rw [hM] at hml c2
  rw [hN] at c3
  have H1 := Lib.hid c1
  have H2 := Lib.hid c2
  have H3 := Lib.hid c3
  have hsle := hs.le
  have htle := ht.le
  obtain ⟨l, hl⟩ : ∃ l, L.length = l + 1 := ⟨L.length - 1, by omega⟩
  obtain ⟨m, hm⟩ : ∃ m, M.length = m + 1 := ⟨M.length - 1, by omega⟩
  have hn : N.length = l + (m + 1) := by rw [hjoin]; simp [hl, hm]
  have hNL : ∀ i x, i < l → N[i]? = some x → L[i]? = some x := by
    intro i x hi hx
    rw [hjoin, List.getElem?_append_left (by simp; omega), List.getElem?_dropLast, if_pos (by omega)] at hx
    exact hx
  have hNM : ∀ i x, N[l + i]? = some x → ∃ y, M[i]? = some y ∧ x = y.to (y.a + (s.size + 1)) := by
    intro i x hx
    rw [hjoin, List.getElem?_append_right (by simp; omega)] at hx
    simp only [List.length_dropLast, hl, Nat.add_sub_cancel, Nat.add_sub_cancel_left, List.getElem?_map, Option.map_eq_some_iff] at hx
    obtain ⟨y, hy, rfl⟩ := hx
    exact ⟨y, hy, rfl⟩
  have hNx : ∀ i, i < l + (m + 1) → ∃ x, N[i]? = some x := fun i hi => ⟨_, List.getElem?_eq_getElem (by omega)⟩
  have hMb : ∀ y ∈ M, y.a ≤ t.size := by
    intro y hy
    obtain ⟨i, hi⟩ := List.getElem?_of_mem hy
    by_cases hk : y.k = 9
    · obtain ⟨L0, hL0, hk0⟩ := toks_last t _ 0 rfl (Nat.zero_le _) (tokErr_not h2).2
      rw [← hM, hL0] at hy
      rcases List.mem_append.1 hy with hy | hy
      · exact absurd hk (hk0 y hy)
      · simp at hy; rw [hy]; exact Nat.le_refl _
    · obtain ⟨p, z, hr, _, hpz, hzs, _⟩ := toks_reads t (tokErr_not h2).2 i y (by rw [hM]; exact hi) hk
      have := hr.lt
      omega
  have HNL := Lib.hid hNL
  have HNM := Lib.hid hNM
  have HNx := Lib.hid hNx
  have HMb := Lib.hid hMb
  have hd1 : decide ((65536 : Int) < (s.size : Int) + t.size + 1) = false := by rw [decide_eq_false_iff_not]; omega
  rw [hl] at H1 hll
  rw [hm] at H2 hml
  rw [hn] at H3
  have hli : (l : Int) ≤ 1048576 := by omega
  have hmi : (m : Int) ≤ 1048576 := by omega
  clear hNL hNM hNx hMb hL0 hM0 hl hm hn hjoin hL hM hN h1 h2 h3 c1 c2 c3 hs ht huS hll hml hsz
  subst hu
  go_enter Try.func7, Try.ntmps7
  go_wp2_with (first
    | (go_at_call 9; refine (works_calls _).mono ?_; rintro e w1 ⟨rfl, hu1⟩; have HU1 := Lib.hid hu1; clear hu1))
  refine (H1.out _).mono ?_
  rintro e w2 ⟨g, cap, rfl, hu2, ht2, -⟩
  have HU2 := Lib.hid (HU1.out.trans hu2)
  clear hu2
  go_wp2_with fail
  refine (H2.out _).mono ?_
  rintro e w3 ⟨g2, cap2, rfl, hu3, ht3, -⟩
  have HU3 := Lib.hid (HU2.out.trans hu3)
  have HT2 := Lib.hid (ht2.new hu3)
  clear hu3 ht2
  go_wp2_with fail
  refine (H3.out _).mono ?_
  rintro e w4 ⟨g3, cap3, rfl, hu4, ht4, -⟩
  have HU4 := Lib.hid (HU3.out.trans hu4)
  have HT3 := Lib.hid (ht3.new hu4)
  replace HT2 := Lib.hid (HT2.out.new hu4)
  have HT4 := Lib.hid ht4
  clear hu4 ht3 ht4
  have z1 : ((l : Int) + 1 == 0) = false := by rw [beq_eq_false_iff_ne]; omega
  have z2 : ((m : Int) + 1 == 0) = false := by rw [beq_eq_false_iff_ne]; omega
  go_wp2_with fail
  clear z1 z2
  go_loopw [15] (fun i wr => ∃ k : Nat, k ≤ l + (m + 1) ∧ i = .int .i64 k ∧ New w4 wr) (fun i _ => l + (m + 1) - (intOf i).toNat)
  case atStart => exact ⟨0, Nat.zero_le _, rfl, Upd.refl _ _⟩
  case round =>
    obtain ⟨k, hk, rfl, hnew⟩ := hrel
    have HN := Lib.hid hnew
    clear hnew
    have i0 : (0 : Int) ≤ k := by omega
    by_cases hlt : k < l + (m + 1)
    · obtain ⟨x, hx⟩ := HNx.out k hlt
      have i1 : (k : Int) < l + (m + 1) := by omega
      obtain ⟨d0, d1, d2, d3⟩ := (HT4.out.new HN.out).at_ hx
      by_cases hkl : k < l
      · have hy := HNL.out k x hkl hx
        obtain ⟨c0, c1, c2, c3⟩ := (HT2.out.new HN.out).at_ hy
        have i2 : (k : Int) < l := by omega
        have i3 : (k : Int) < l + 1 := by omega
        clear hx hy
        go_wp2_with fail
        go_quiet (fail)
        go_wp2_with fail
        go_roundw
        case rel => exact ⟨k + 1, by omega, by go_num, HN.out.drewN _⟩
        case measure => simp [intOf]; omega
      · obtain ⟨j, rfl⟩ : ∃ j, k = l + j := ⟨k - l, by omega⟩
        obtain ⟨y, hy, rfl⟩ := HNM.out j x hx
        have hyb := HMb.out y (List.mem_of_getElem? hy)
        obtain ⟨c0, c1, c2, c3⟩ := (HT3.out.new HN.out).at_ hy
        have i2 : ¬ (l : Int) + j < l := by omega
        have i4 : (j : Int) < m + 1 := by omega
        have i5 : (0 : Int) ≤ j := by omega
        have i6 : (0 : Int) ≤ (l : Int) + j := by omega
        have i7 : (l : Int) + j < l + (m + 1) := by omega
        dsimp only [Tok.to] at d0 d1 d2 d3
        have d3' : wr.cell? ⟨g3, (l + j) * 4 + 3, none⟩ = some (.int .i64 ((y.a : Int) + s.size + 1)) := by
          rw [d3]
          refine congrArg (fun z => some (Value.int .i64 z)) ?_
          omega
        have hg3 := (HT4.out.new HN.out).1
        clear hx hy hkl d3
        go_wp2_with fail
        clear c0 c1 c2 c3
        go_quiet (fail)
        go_wp2_with fail
        go_roundw
        case rel => exact ⟨l + j + 1, by omega, by go_num, (HN.out.alloc _).drewN _⟩
        case measure => simp [intOf]; omega
    · have i3 : ¬ (k : Int) < l + (m + 1) := by omega
      go_wp2_with fail
      go_ret
      exact ⟨rfl, HU4.out.trans HN.out⟩
end Go.Proofs.Ytecoahdeafobkaa
