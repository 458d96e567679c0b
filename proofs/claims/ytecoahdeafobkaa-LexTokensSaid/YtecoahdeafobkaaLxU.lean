/- Lex: the law LexParts. -/
import Derived.Test.YtecoahdeafobkaaLxT
import Derived.Deep.RegionHeld3
namespace Go.Proofs.Ytecoahdeafobkaa
open Go.RowKit
set_option linter.unusedVariables false
set_option linter.unusedSimpArgs false

theorem alike_at (k n a b : Int) (t : ByteArray) (w : World) : Calls Try.prog 15 #[.agg #[.int .u8 k, .string t, .int .i64 n, .int .i64 a], .agg #[.int .u8 k, .string t, .int .i64 n, .int .i64 b]] w fun e w' => e = .returned (.bool true) ∧ New w w' := alike_calls k n a b t w

theorem bytes_calls (s : ByteArray) (hs : Small s) (g m cap : Nat) (L : List Tok) (w : World) (hm : (m : Int) ≤ 1048577) (hlen : L.length = m) (ht : Toks w g L) (i p : Nat) (x y : Tok)
    (hx : L[i]? = some x) (hy : L[i + 1]? = some y) (hr : Reads s x.a p x) (hpy : p ≤ y.a) (hys : y.a ≤ s.size) (hst : p = y.a ∨ at' s p ≤ 32 ∨ at' s p = 59) :
    Calls Try.prog 14 #[.string s, .slice (some ⟨g, 0, none⟩) m cap, .int .i64 i] w fun e w' => e = .returned (.string (s.extract x.a p)) ∧ w = w' := by
  have hlt := hr.lt
  obtain ⟨a0, a1, a2, a3⟩ := ht.at_ hx
  obtain ⟨b0, b1, b2, b3⟩ := ht.at_ hy
  have hil : i + 1 < m := by rw [← hlen]; exact (List.getElem?_eq_some_iff.1 hy).1
  by_cases hk : x.k = 1 ∨ x.k = 2 ∨ x.k = 3
  · have hp1 : p = x.a + 1 := by
      obtain ⟨_, _, ⟨_, _, _, h⟩ | ⟨_, _, _, _, _, he, h4, _⟩⟩ := hr
      · exact h
      · have := wK_range _ he; omega
    rw [hp1]
    exact bytes_short s hs g m cap i x.k x.a w (by omega) (by omega) a0 a3 hk
  · refine bytes_long s hs g m cap i x.k x.a y.a p w hil (by omega) a0 a3 b3 (by rw [beq_eq_false_iff_ne]; omega) (by rw [beq_eq_false_iff_ne]; omega) (by rw [beq_eq_false_iff_ne]; omega) hm hys hlt.1 hpy ?_ hst
    intro j h1 h2
    obtain ⟨_, _, ⟨h3, _⟩ | ⟨_, _, _, _, hp, _⟩⟩ := hr
    · exact absurd (by rcases h3 with ⟨_, h⟩ | ⟨_, h⟩ | ⟨_, h⟩ <;> simp [h]) hk
    · have := wordEnd_word s _ (x.a + 1) rfl j (by omega) (by omega)
      generalize at' s j = c at *
      simp [isWI] at this
      omega

/-- A token's own bytes, read as tokens. -/
theorem tokens_own (s : ByteArray) (hs : Small s) (hsm : (s.size : Int) ≤ 65536) (a p : Nat) (x : Tok) (hr : Reads s a p x) (w : World) :
    Calls Try.prog 12 #[.string (s.extract a p)] w fun e w' => ∃ g cap, e = .returned (.tuple #[.slice (some ⟨g, 0, none⟩) 2 cap, .int .i64 0, .int .i64 0]) ∧ New w w' ∧ Toks w' g [x.to 0, ⟨9, ⟨#[]⟩, 0, p - a⟩] := by
  have hlt := hr.lt
  have hsz : (s.extract a p).size = p - a := by rw [ByteArray.size_extract]; omega
  refine (tokens_calls (s.extract a p) (hs.extract _ _) (by rw [decide_eq_false_iff_not, hsz]; omega) w).mono ?_
  rintro e w' ⟨hn, h⟩
  rw [reads_own s a p x hr] at h
  rcases h with ⟨h, _⟩ | ⟨_, g, cap, he, ho⟩
  · exact absurd rfl h
  · exact ⟨g, cap, he, hn, Toks.of_own ho⟩

theorem toks_len (s : ByteArray) : ∀ n a, s.size - a = n → a ≤ s.size → (toks s a).1.length ≤ s.size - a + 1 := by
  intro n
  induction n using Nat.strongRecOn with
  | ind n ih =>
    intro a hn ha
    by_cases he : (nextOf s a).2.2 = 0
    · by_cases hk : (nextOf s a).1.k = 9
      · rw [toks_end he hk]; simp
      · have hp := nextOf_place s a ha he hk
        rw [toks_more ha he hk]
        have := ih (s.size - (nextOf s a).2.1) (by omega) _ rfl hp.2
        simp only [List.length_cons]
        omega
    · rw [toks_err he]; simp

/-- A text has no tokens: it is too long, or something in it is wrong. -/
def tokErr (s : ByteArray) : Prop := decide ((65536 : Int) < s.size) = true ∨ (toks s 0).2.1 ≠ 0
theorem tokErr_not {s : ByteArray} (h : ¬ tokErr s) : decide ((65536 : Int) < s.size) = false ∧ (toks s 0).2.1 = 0 := by
  refine ⟨?_, ?_⟩
  · cases hd : decide ((65536 : Int) < s.size) with
    | false => rfl
    | true => exact absurd (.inl hd) h
  · by_cases hd : (toks s 0).2.1 = 0
    · exact hd
    · exact absurd (.inr hd) h
theorem tokens_bad (s : ByteArray) (hs : Small s) (h : tokErr s) : ∃ er pl : Int, (er != 0) = true ∧ ∀ w, Calls Try.prog 12 #[.string s] w fun e w' => e = .returned (.tuple #[.slice none 0 0, .int .i64 er, .int .i64 pl]) ∧ New w w' := by
  have hsz := hs.le
  by_cases hm : decide ((65536 : Int) < s.size) = true
  · refine ⟨2, 0, rfl, fun w => ?_⟩
    clear h
    go_enter Try.func12, Try.ntmps12
    go_wp2
    exact bodyPost_ret (results_tmp3 rfl _ _ _) rfl ⟨rfl, Upd.refl _ _⟩
  · have he : (toks s 0).2.1 ≠ 0 := h.resolve_left hm
    refine ⟨(toks s 0).2.1, (toks s 0).2.2, by simpa using he, fun w => ?_⟩
    refine (tokens_calls s hs (by simpa using hm) w).mono fun e w' ⟨hn, h⟩ => ?_
    rcases h with ⟨_, h⟩ | ⟨h, _⟩
    · exact ⟨h, hn⟩
    · exact absurd h he
theorem tokens_good (s : ByteArray) (hs : Small s) (h : ¬ tokErr s) (w : World) : Calls Try.prog 12 #[.string s] w fun e w' => ∃ g cap, e = .returned (.tuple #[.slice (some ⟨g, 0, none⟩) (toks s 0).1.length cap, .int .i64 0, .int .i64 0]) ∧ New w w' ∧ Toks w' g (toks s 0).1 ∧ w.heap.size ≤ g := by
  obtain ⟨hm, he⟩ := tokErr_not h
  refine (tokens_calls s hs hm w).mono fun e w' ⟨hn, h⟩ => ?_
  rcases h with ⟨h, _⟩ | ⟨_, g, cap, h, ho⟩
  · exact absurd he h
  · exact ⟨g, cap, h, hn, Toks.of_own ho, (own_lt ho g rfl).1⟩

set_option maxHeartbeats 2000000 in
theorem parts_bad (s : ByteArray) (hs : Small s) (h : tokErr s) (w : World) :
    Calls Try.prog 5 #[.string s] w fun e w' => e = .returned (.bool true) ∧ New w w' := by
  have hsz := hs.le
  obtain ⟨er, pl, e0, h12⟩ := tokens_bad s hs h
  have H12 := Lib.hid h12
  clear h12 h
  go_enter Try.func5, Try.ntmps5
  go_wp2_with (first | (go_at_call 9; refine (works_calls _).mono ?_; rintro e w1 ⟨rfl, hu1⟩; have HU1 := Lib.hid hu1; clear hu1) | (go_at_call 12; refine (H12.out _).mono ?_; rintro e w2 ⟨rfl, hu2⟩; have HU2 := Lib.hid hu2; clear hu2))
  go_ret
  exact ⟨rfl, HU1.out.trans HU2.out⟩

set_option maxHeartbeats 4000000 in
set_option maxRecDepth 100000 in
theorem parts_good (s : ByteArray) (hs : Small s) (h : ¬ tokErr s) (w : World) :
    Calls Try.prog 5 #[.string s] w fun e w' => e = .returned (.bool true) ∧ New w w' := by
  have hsz := hs.le
  have hgood := tokens_good s hs h
  obtain ⟨hsm, h0⟩ := tokErr_not h
  replace hsm : (s.size : Int) ≤ 65536 := by simpa using hsm
  have hP := placed_of s h0
  have hlen := toks_len s _ 0 rfl (Nat.zero_le _)
  have hR := toks_reads s h0
  clear h h0
  generalize hL : (toks s 0).1 = L at *
  clear hL
  generalize hm : L.length = m at *
  have hmi : (m : Int) ≤ 1048577 := by omega
  have HR := Lib.hid hR
  have HP := Lib.hid hP
  have HM := Lib.hid hm
  have HG := Lib.hid hgood
  have hm0 := hP.pos
  rw [hm] at hm0
  clear hR hP hm hgood hlen
  go_enter Try.func5, Try.ntmps5
  go_wp2_with (first
    | (go_at_call 9; refine (works_calls _).mono ?_; rintro e w1 ⟨rfl, hu1⟩; have HU1 := Lib.hid hu1; clear hu1)
    | (go_at_call 12; refine (HG.out _).mono ?_; rintro e w2 ⟨g, cap, rfl, hu2, ht2, hg2⟩; have HU2 := Lib.hid (HU1.out.trans hu2); have HT2 := Lib.hid ht2; clear hu2 ht2 hg2)
    | (go_at_call 13; refine (placed_calls s hs g m cap L _ hmi HM.out HT2.out HP.out).mono ?_; rintro e w3 ⟨rfl, hu3⟩; have HU3 := Lib.hid (HU2.out.trans hu3); have HT3 := Lib.hid (HT2.out.new hu3); clear hu3))
  go_loopw [8] (fun i wr => ∃ k : Nat, k < m ∧ i = .int .i64 k ∧ New w3 wr) (fun i _ => m - (intOf i).toNat)
  case atStart => exact ⟨0, hm0, rfl, Upd.refl _ _⟩
  case round =>
    obtain ⟨k, hk, rfl, hnew⟩ := hrel
    have HN := Lib.hid hnew
    clear hnew
    by_cases hlt : k + 1 < m
    · have q0 : IntKind.i64.wrap ((k : Int) + 1) = (k : Int) + 1 := IntWalk.i64_in _ (by omega)
      have i0 : (0 : Int) ≤ k := by omega
      have i1 : (k : Int) < m := by omega
      by_cases h2 : (k : Int) < 2000
      · obtain ⟨x, y', hx, hy', hxy, hk9⟩ := HP.out.step k (by rw [HM.out]; exact hlt)
        obtain ⟨p, y, hrd, hy, hpy, hys, hst⟩ := HR.out k x hx hk9
        have hb := bytes_calls s hs g m cap L wr hmi HM.out (HT3.out.new HN.out) k p x y hx hy hrd hpy hys hst
        have htk := tokens_own s hs hsm x.a p x hrd
        have hsy := isSymbol_calls (s.extract x.a p) (hs.extract _ _)
        obtain ⟨hs1, hs2⟩ := reads_sym s x.a p x hrd
        have hlt2 := hrd.lt
        have hbs : p - x.a = (s.extract x.a p).size := by rw [ByteArray.size_extract]; omega
        rw [hbs] at htk
        rw [hs1] at hsy
        generalize s.extract x.a p = b at *
        have HX := Lib.hid hx
        obtain ⟨xk, xt, xn, xa⟩ := x
        dsimp only [Tok.to] at *
        have Hb := Lib.hid hb
        have Htk := Lib.hid htk
        have Hsy := Lib.hid hsy
        have Hs2 := Lib.hid hs2
        clear hb htk hsy hs2 hs1 hbs hlt2 hx hy hy' hxy hk9 hrd hpy hys hst
        go_wp2_with (first
          | (go_at_call 14; refine Hb.out.mono ?_; rintro e w4' ⟨rfl, rfl⟩)
          | (go_at_call 12; refine (Htk.out _).mono ?_; rintro e w4 ⟨g2, cap2, rfl, hu4, ht4⟩; have HU4 := Lib.hid (HN.out.trans hu4); have HT4 := Lib.hid ht4; clear hu4 ht4))
        obtain ⟨d0, d1, d2, d3⟩ := (HT3.out.new HU4.out).at_ HX.out
        obtain ⟨c0, c1, c2, c3⟩ := HT4.out.at_ (i := 0) rfl
        obtain ⟨-, -, -, c7⟩ := HT4.out.at_ (i := 1) rfl
        simp only [Nat.zero_mul, Nat.zero_add, Nat.one_mul] at c0 c1 c2 c3 c7
        go_region_held3 (fun w' => w'.cell? ⟨g, k * 4, none⟩ = some (.int .u8 xk) ∧ w'.cell? ⟨g, k * 4 + 1, none⟩ = some (.string xt) ∧ w'.cell? ⟨g, k * 4 + 2, none⟩ = some (.int .i64 xn) ∧ w'.cell? ⟨g, k * 4 + 3, none⟩ = some (.int .i64 xa) ∧
            w'.cell? ⟨g2, 0, none⟩ = some (.int .u8 xk) ∧ w'.cell? ⟨g2, 1, none⟩ = some (.string xt) ∧ w'.cell? ⟨g2, 2, none⟩ = some (.int .i64 xn) ∧ w'.cell? ⟨g2, 3, none⟩ = some (.int .i64 0) ∧ w'.cell? ⟨g2, 7, none⟩ = some (.int .i64 b.size))
          (first | exact ⟨d0, d1, d2, d3, c0, c1, c2, c3, c7⟩ | exact ⟨d0', d1', d2', d3', c0', c1', c2', c3', c7'⟩)
          ((go_at_call 15; refine (alike_at _ _ _ _ _ _).mono ?_; rintro e w5 ⟨rfl, hu5⟩; have d0' := hu5.cell d0 (fun x => x); have d1' := hu5.cell d1 (fun x => x); have d2' := hu5.cell d2 (fun x => x); have d3' := hu5.cell d3 (fun x => x); have c0' := hu5.cell c0 (fun x => x); have c1' := hu5.cell c1 (fun x => x); have c2' := hu5.cell c2 (fun x => x); have c3' := hu5.cell c3 (fun x => x); have c7' := hu5.cell c7 (fun x => x); have HU5 := Lib.hid (HU4.out.drew.trans hu5); clear hu5))
        all_goals
          clear d0 d1 d2 d3 c0 c1 c2 c3 c7 c0' c1' c2' c3' c7' d2' d3'
          cases h6 : (xk == 6)
          · rw [h6] at Hsy
            go_wp2_with (go_at_call 10; refine (Hsy.out _).mono ?_; rintro e w6 ⟨rfl, hu6⟩; have d0 := hu6.cell d0' (fun x => x); have d1 := hu6.cell d1' (fun x => x); have HU6 := Lib.hid (HU5.out.trans hu6); clear hu6 d0' d1')
            go_roundw
            case rel => exact ⟨k + 1, by omega, by go_num, HU6.out⟩
            case measure => simp [intOf]; omega
          · rw [h6] at Hsy
            have hxt := Hs2.out (by simpa using h6)
            subst hxt
            go_wp2_with (go_at_call 10; refine (Hsy.out _).mono ?_; rintro e w6 ⟨rfl, hu6⟩; have d0 := hu6.cell d0' (fun x => x); have d1 := hu6.cell d1' (fun x => x); have HU6 := Lib.hid (HU5.out.trans hu6); clear hu6 d0' d1')
            go_roundw
            case rel => exact ⟨k + 1, by omega, by go_num, HU6.out⟩
            case measure => simp [intOf]; omega
      · go_wp2_with fail
        go_ret
        exact ⟨rfl, HU3.out.trans HN.out⟩
    · go_wp2_with fail
      go_ret
      exact ⟨rfl, HU3.out.trans HN.out⟩
end Go.Proofs.Ytecoahdeafobkaa
