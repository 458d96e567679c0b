/- The reference's tokens: all ahead of the first error. -/
import Derived.Test.YtecoahdeafobkaaOwB
import Derived.Deep.LoopGhost
namespace Go.Proofs.Ytecoahdeafobkaa
open Go.RowKit
set_option linter.unusedVariables false
set_option linter.unusedSimpArgs false

theorem toks_same (s : ByteArray) (a b : Nat) (ha : a ≤ s.size) (hb : b ≤ s.size) (h : nextOf s a = nextOf s b) : toks s a = toks s b := by
  by_cases he : (nextOf s a).2.2 = 0
  · by_cases hk : (nextOf s a).1.k = 9
    · rw [toks_end he hk, toks_end (by rw [← h]; exact he) (by rw [← h]; exact hk), h]
    · rw [toks_more ha he hk, toks_more hb (by rw [← h]; exact he) (by rw [← h]; exact hk), h]
  · rw [toks_err he, toks_err (by rw [← h]; exact he), h]
theorem Bk.Grew.new {w wr w' : World} {v v' : Value} (hn : New w wr) (h : Bk.Grew wr w' v v') (hv : ∀ b, v.ownBlock = some b → w.heap.size ≤ b) : New w w' :=
  ((hn.mono (fun _ _ x => x.elim) : Upd (fun b => w.heap.size ≤ b) w wr).trans (h.upd.mono (fun b _ hb => hv b hb.1))).mono (fun b hb h => by have h : w.heap.size ≤ b := h; omega)
/-- In the reference's loop. -/
def SomeAt (s : ByteArray) (w : World) (v : Value) (a : Nat) (wr : World) : Prop :=
  New w wr ∧ a ≤ s.size ∧ ∃ L : List Tok, L.length ≤ a ∧ wr.ownsRow w.heap.size 34 4 v L.length (tokCells L) ∧ toks s 0 = (L ++ (toks s a).1, (toks s a).2)
theorem SomeAt.same {s : ByteArray} {w wr : World} {v : Value} {a b : Nat} (h : SomeAt s w v a wr) (hab : a ≤ b) (hb : b ≤ s.size) (hn : nextOf s a = nextOf s b) : SomeAt s w v b wr := by
  obtain ⟨h1, h2, L, h3, h4, h5⟩ := h
  exact ⟨h1, hb, L, by omega, h4, by rw [← toks_same s a b h2 hb hn]; exact h5⟩
theorem SomeAt.more {s : ByteArray} {w w1 w' : World} {v v' : Value} {a p : Nat} {x : Tok} {L : List Tok} (h1 : New w w1) (ha : a ≤ s.size) (hL : L.length ≤ a) (hv : ∀ b, v.ownBlock = some b → w.heap.size ≤ b) (h5 : toks s 0 = (L ++ (toks s a).1, (toks s a).2)) (hx : nextOf s a = (x, p, 0)) (hk : x.k ≠ 9)
    (ho : w'.ownsRow w.heap.size 34 4 v' (L.length + 1) (tokCells L ++ x.cells)) (hg : Bk.Grew w1 w' v v') : SomeAt s w v' p w' := by
  have hp := nextOf_place s a ha (by rw [hx]) (by rw [hx]; exact hk)
  rw [hx] at hp
  refine ⟨hg.new h1 hv, hp.2, L ++ [x], ?_, ?_, ?_⟩
  · have : a < p := hp.1
    simp only [List.length_append, List.length_singleton]; omega
  · rw [tokCells_append]; simpa using ho
  · rw [h5, toks_more ha (by rw [hx]) (by rw [hx]; exact hk), hx]; simp
def SomePost (s : ByteArray) (w : World) (e : Ending) (w' : World) : Prop :=
  New w w' ∧ ∃ v, e = .returned (.tuple #[v, .int .i64 (toks s 0).2.1, .int .i64 (toks s 0).2.2]) ∧ w'.ownsRow w.heap.size 34 4 v (toks s 0).1.length (tokCells (toks s 0).1)
theorem SomePost.err {s : ByteArray} {w wr w' : World} {v : Value} {a p : Nat} {er : Int} {x : Tok} (h : SomeAt s w v a wr) (hn : New wr w') (hx : nextOf s a = (x, p, er)) (he : er ≠ 0) : SomePost s w (.returned (.tuple #[v, .int .i64 er, .int .i64 p])) w' := by
  obtain ⟨h1, h2, L, h3, h4, h5⟩ := h
  have h6 := toks_err (s := s) (a := a) (by rw [hx]; exact he)
  rw [h6, hx] at h5
  simp only [List.append_nil] at h5
  exact ⟨h1.trans hn, v, by rw [h5], by rw [h5]; exact hn.ownsRow h4 (fun _ _ x => x)⟩
theorem SomePost.done {s : ByteArray} {w w1 w' : World} {v v' : Value} {L : List Tok} (h1 : New w w1) (hv : ∀ b, v.ownBlock = some b → w.heap.size ≤ b) (h5 : toks s 0 = (L ++ (toks s s.size).1, (toks s s.size).2))
    (ho : w'.ownsRow w.heap.size 34 4 v' (L.length + 1) (tokCells L ++ Tok.cells ⟨9, ⟨#[]⟩, 0, s.size⟩)) (hg : Bk.Grew w1 w' v v') : SomePost s w (.returned (.tuple #[v', .int .i64 0, .int .i64 0])) w' := by
  have hx : nextOf s s.size = (⟨9, ⟨#[]⟩, 0, s.size⟩, s.size, 0) := by
    unfold nextOf
    rw [skipG.eq_def, if_neg (by omega), tokAt, if_pos (Nat.le_refl _)]
  have h6 := toks_end (s := s) (a := s.size) (by rw [hx]) (by rw [hx])
  rw [h6, hx] at h5
  simp only at h5
  refine ⟨hg.new h1 hv, v', by rw [h5]; rfl, ?_⟩
  rw [h5]
  simp only [List.length_append, List.length_singleton, tokCells_append]
  exact ho
set_option maxRecDepth 100000 in
set_option maxHeartbeats 8000000 in
theorem some_calls (s : ByteArray) (hs : Small s) (w : World) : Calls Try.prog 27 #[.string s] w (SomePost s w) := by
  have hsz := hs.le
  obtain ⟨i0, hi0, hz0, hz1, hz2⟩ := info_parts info34
  have h0 : SomeAt s w (.slice none 0 0) 0 w := ⟨Upd.refl _ _, Nat.zero_le _, [], Nat.le_refl _, ⟨rfl, .inl ⟨rfl, rfl⟩⟩, by simp⟩
  have H0 := Lib.hid h0
  have HS := Lib.hid hs
  clear h0
  go_enter Try.func27, Try.ntmps27
  go_wp2_with fail
  go_loopw [5, 6] (fun v i wr => ∃ a : Nat, i = .int .i64 a ∧ SomeAt s w v a wr) (fun _ i _ => s.size - (intOf i).toNat)
  case atStart => exact ⟨0, rfl, H0.out⟩
  case round =>
    obtain ⟨a, rfl, hsome⟩ := hrel
    have ha := hsome.2.1
    have hws := hsome.1.size
    obtain ⟨hn, _, L, hLa, hown, htk⟩ := id hsome
    have hvb := fun b hb => (Bk.own_lt hown b hb).1
    have M1 := Lib.hid (show L.length + 1 ≤ maxLen by unfold maxLen; omega)
    have M2 := Lib.hid (show (L.length + 1) * 40 ≤ 140737488355328 by omega)
    have a0 : (0 : Int) ≤ a := by omega
    have e1 : IntKind.i64.wrap ((a : Int) + 1) = (a : Int) + 1 := IntWalk.i64_in _ (by omega)
    have HSOME := Lib.hid hsome
    have HN := Lib.hid hn
    have HT := Lib.hid htk
    have HVB := Lib.hid hvb
    clear hsome hn htk hvb
    by_cases hlt : a < s.size
    · have hv := at_eq s a hlt
      have hlt1 : (a : Int) < s.size := by omega
      obtain ⟨c, hc⟩ : ∃ c, at' s a = c := ⟨_, rfl⟩
      rw [hc] at hv
      have HC := Lib.hid hc
      clear hc
      cases hbl : isBI c with
      | true =>
        clear hown
        go_wp2_with ((go_at_call 54; refine (blank_calls _ _).mono ?_; rintro e w1 ⟨rfl, rfl⟩))
        go_roundw
        case rel =>
          refine ⟨a + 1, by go_num, HSOME.out.same (by omega) (by omega) ?_⟩
          unfold nextOf
          rw [skip_blank hlt (by rw [HC.out]; exact hbl)]
        case measure => simp [intOf]; omega
      | false =>
        by_cases h59 : c = 59
        · subst h59
          clear hown
          go_wp2_with ((go_at_call 54; refine (blank_calls _ _).mono ?_; rintro e w1 ⟨rfl, rfl⟩))
          generalize wr = wo at *
          go_loop [6] (fun i => ∃ p : Nat, a ≤ p ∧ p ≤ s.size ∧ i = .int .i64 p ∧ skipG s true a = skipG s true p) (fun i => s.size - (intOf i).toNat)
          case atStart => exact ⟨a, Nat.le_refl _, ha, rfl, rfl⟩
          case round =>
            obtain ⟨p, hap, hps, rfl, hsk⟩ := hrel
            have HSK := Lib.hid hsk
            have p0 : (0 : Int) ≤ p := by omega
            have e2 : IntKind.i64.wrap ((p : Int) + 1) = (p : Int) + 1 := IntWalk.i64_in _ (by omega)
            clear hsk
            by_cases hpl : p < s.size
            · have hv2 := at_eq s p hpl
              obtain ⟨c2, hc2⟩ : ∃ c, at' s p = c := ⟨_, rfl⟩
              rw [hc2] at hv2
              have HC2 := Lib.hid hc2
              clear hc2
              have hpl1 : (p : Int) < s.size := by omega
              by_cases h10 : c2 = 10
              · subst h10
                go_wp2_with fail
                go_roundw
                case rel =>
                  refine ⟨p, rfl, HSOME.out.same hap hps ?_⟩
                  unfold nextOf
                  rw [skip_comment hlt HC.out, HSK.out]
                  have h1 := skip_line (s := s) (k := p) (i := 0) hpl HC2.out (fun j h1 h2 => by omega)
                  rw [h1]
                  rfl
                case measure =>
                  have : p ≠ a := fun e => by subst e; have := HC.out; have := HC2.out; omega
                  simp [intOf]; omega
              · have h10b : (c2 != 10) = true := by rw [bne_iff_ne]; exact h10
                go_wp2_with fail
                go_round
                case rel =>
                  refine ⟨p + 1, by omega, by omega, by go_num, ?_⟩
                  rw [HSK.out, skipG.eq_def s true p, if_pos hpl, if_pos rfl, if_neg (by rw [HC2.out]; exact h10)]
                case measure => simp [intOf]; omega
            · have hpe : p = s.size := by omega
              subst hpe
              go_wp2_with fail
              go_roundw
              case rel =>
                refine ⟨s.size, rfl, HSOME.out.same hap (Nat.le_refl _) ?_⟩
                unfold nextOf
                rw [skip_comment hlt HC.out, HSK.out, show skipG s true s.size = s.size from (by rw [skipG.eq_def]; exact if_neg (by omega)), show skipG s false s.size = s.size from (by rw [skipG.eq_def]; exact if_neg (by omega))]
              case measure => simp [intOf]; omega
        · have n59 : (c == 59) = false := by rw [beq_eq_false_iff_ne]; exact h59
          have hstop : skipG s false a = a := skip_stop hlt (by rw [HC.out]; exact hbl) (by rw [HC.out]; exact h59)
          have HST := Lib.hid hstop
          clear hstop
          have M3 := Lib.hid (show w.heap.size ≤ (wr.alloc (.cells #[.int .u8 1, .string ⟨#[]⟩, .int .i64 0, .int .i64 a] 34)).heap.size by simp; omega)
          have hLlt := HSOME.out.1.size
          by_cases h40 : c = 40
          · subst h40
            replace M3 := Lib.hid (show w.heap.size ≤ (wr.alloc (.cells #[.int .u8 1, .string ⟨#[]⟩, .int .i64 0, .int .i64 a] 34)).heap.size by simp; omega)
            have HO := Lib.hid hown
            clear hown
            go_wp2_with (first | (go_at_call 54; refine (blank_calls _ _).mono ?_; rintro e w1 ⟨rfl, rfl⟩) | (at_builtin; refine Bk.wpList_append2 (wr.alloc (.cells #[.int .u8 1, .string ⟨#[]⟩, .int .i64 0, .int .i64 a] 34)) (by rfl) (.tmp 41) (.tmp 44) 26 (by rfl) w.heap.size 34 i0 _ 4 40 Try.underlying26 hi0 hz0 hz1 hz2 rfl (by decide) u5 L.length (tokCells L) (by rfl) (HO.out.alloc (.cells #[.int .u8 1, .string ⟨#[]⟩, .int .i64 0, .int .i64 a] 34)) wr.heap.size 1 1 (Tok.cells ⟨1, ⟨#[]⟩, 0, a⟩) (by rfl) (by decide) (by rfl) (World.news_of_block (heap_alloc_new wr (.cells #[.int .u8 1, .string ⟨#[]⟩, .int .i64 0, .int .i64 a] 34))) (tok_one _) M1.out M2.out M3.out ?_; intro v1 w5 ho5 hg5))
            go_roundw
            case rel =>
              refine ⟨a + 1, by go_num, SomeAt.more (HN.out.alloc _) ha hLa HVB.out HT.out (x := ⟨1, ⟨#[]⟩, 0, a⟩) ?_ (by show (1 : Int) ≠ 9; omega) ho5 hg5⟩
              unfold nextOf
              rw [HST.out, tokAt, if_neg (by omega)]
              simp [HC.out]
            case measure => simp [intOf]; omega
          have n40 : (c == 40) = false := by rw [beq_eq_false_iff_ne]; exact h40
          by_cases h41 : c = 41
          · subst h41
            replace M3 := Lib.hid (show w.heap.size ≤ (wr.alloc (.cells #[.int .u8 2, .string ⟨#[]⟩, .int .i64 0, .int .i64 a] 34)).heap.size by simp; omega)
            have HO := Lib.hid hown
            clear hown
            go_wp2_with (first | (go_at_call 54; refine (blank_calls _ _).mono ?_; rintro e w1 ⟨rfl, rfl⟩) | (at_builtin; refine Bk.wpList_append2 (wr.alloc (.cells #[.int .u8 2, .string ⟨#[]⟩, .int .i64 0, .int .i64 a] 34)) (by rfl) (.tmp 51) (.tmp 54) 26 (by rfl) w.heap.size 34 i0 _ 4 40 Try.underlying26 hi0 hz0 hz1 hz2 rfl (by decide) u5 L.length (tokCells L) (by rfl) (HO.out.alloc (.cells #[.int .u8 2, .string ⟨#[]⟩, .int .i64 0, .int .i64 a] 34)) wr.heap.size 1 1 (Tok.cells ⟨2, ⟨#[]⟩, 0, a⟩) (by rfl) (by decide) (by rfl) (World.news_of_block (heap_alloc_new wr (.cells #[.int .u8 2, .string ⟨#[]⟩, .int .i64 0, .int .i64 a] 34))) (tok_one _) M1.out M2.out M3.out ?_; intro v1 w5 ho5 hg5))
            go_roundw
            case rel =>
              refine ⟨a + 1, by go_num, SomeAt.more (HN.out.alloc _) ha hLa HVB.out HT.out (x := ⟨2, ⟨#[]⟩, 0, a⟩) ?_ (by show (2 : Int) ≠ 9; omega) ho5 hg5⟩
              unfold nextOf
              rw [HST.out, tokAt, if_neg (by omega)]
              simp [HC.out]
            case measure => simp [intOf]; omega
          have n41 : (c == 41) = false := by rw [beq_eq_false_iff_ne]; exact h41
          by_cases h39 : c = 39
          · subst h39
            replace M3 := Lib.hid (show w.heap.size ≤ (wr.alloc (.cells #[.int .u8 3, .string ⟨#[]⟩, .int .i64 0, .int .i64 a] 34)).heap.size by simp; omega)
            have HO := Lib.hid hown
            clear hown
            go_wp2_with (first | (go_at_call 54; refine (blank_calls _ _).mono ?_; rintro e w1 ⟨rfl, rfl⟩) | (at_builtin; refine Bk.wpList_append2 (wr.alloc (.cells #[.int .u8 3, .string ⟨#[]⟩, .int .i64 0, .int .i64 a] 34)) (by rfl) (.tmp 61) (.tmp 64) 26 (by rfl) w.heap.size 34 i0 _ 4 40 Try.underlying26 hi0 hz0 hz1 hz2 rfl (by decide) u5 L.length (tokCells L) (by rfl) (HO.out.alloc (.cells #[.int .u8 3, .string ⟨#[]⟩, .int .i64 0, .int .i64 a] 34)) wr.heap.size 1 1 (Tok.cells ⟨3, ⟨#[]⟩, 0, a⟩) (by rfl) (by decide) (by rfl) (World.news_of_block (heap_alloc_new wr (.cells #[.int .u8 3, .string ⟨#[]⟩, .int .i64 0, .int .i64 a] 34))) (tok_one _) M1.out M2.out M3.out ?_; intro v1 w5 ho5 hg5))
            go_roundw
            case rel =>
              refine ⟨a + 1, by go_num, SomeAt.more (HN.out.alloc _) ha hLa HVB.out HT.out (x := ⟨3, ⟨#[]⟩, 0, a⟩) ?_ (by show (3 : Int) ≠ 9; omega) ho5 hg5⟩
              unfold nextOf
              rw [HST.out, tokAt, if_neg (by omega)]
              simp [HC.out]
            case measure => simp [intOf]; omega
          have n39 : (c == 39) = false := by rw [beq_eq_false_iff_ne]; exact h39
          cases hw : isWI c with
          | false =>
            clear hown
            go_wp2_with (first | (go_at_call 54; refine (blank_calls _ _).mono ?_; rintro e w1 ⟨rfl, rfl⟩) | (go_at_call 24; refine (plain_calls _ _).mono ?_; rintro e w1 ⟨rfl, rfl⟩))
            refine bodyPost_ret (results_tmp3 rfl _ _ _) rfl ?_
            refine SomePost.err HSOME.out (Upd.refl _ _) (x := zTok) ?_ (by decide)
            unfold nextOf
            rw [HST.out, tokAt, if_neg (by omega)]
            simp [HC.out, h40, h41, h39, hw]
          | true =>
            obtain ⟨E, hE⟩ : ∃ E, wordEnd s (a + 1) = E := ⟨_, rfl⟩
            have hEb := wordEnd_le s _ (a + 1) rfl (by omega)
            rw [hE] at hEb
            have hwa : wordEnd s a = E := by rw [wordEnd, if_pos ⟨hlt, by rw [HC.out]; exact hw⟩]; exact hE
            have HE := Lib.hid hE
            have HWA := Lib.hid hwa
            have HO := Lib.hid hown
            clear hE hwa hown
            go_wp2_with (first | (go_at_call 54; refine (blank_calls _ _).mono ?_; rintro e w1 ⟨rfl, rfl⟩) | (go_at_call 24; refine (plain_calls _ _).mono ?_; rintro e w1 ⟨rfl, rfl⟩))
            generalize wr = wo at *
            go_loop [8] (fun i => ∃ k : Nat, a ≤ k ∧ k ≤ E ∧ i = .int .i64 k ∧ wordEnd s k = E) (fun i => s.size - (intOf i).toNat)
            case atStart => exact ⟨a, Nat.le_refl _, by omega, rfl, HWA.out⟩
            case round =>
              obtain ⟨k, hak, hkE, rfl, hall⟩ := hrel
              have k0 : (0 : Int) ≤ k := by omega
              have e2 : IntKind.i64.wrap ((k : Int) + 1) = (k : Int) + 1 := IntWalk.i64_in _ (by omega)
              have hwe := wordEnd.eq_def s k
              rw [hall] at hwe
              have HWE := Lib.hid hwe
              clear hall hwe
              have hgo : (k < s.size ∧ isWI (at' s k) = true) ∨ ((k < s.size → isWI (at' s k) = false) ∧ k = E) := by
                have h1 := HWE.out
                by_cases hx : k < s.size ∧ isWI (at' s k) = true
                · exact .inl hx
                · rw [if_neg hx] at h1
                  exact .inr ⟨fun h => by cases hh : isWI (at' s k) with | false => rfl | true => exact absurd ⟨h, hh⟩ hx, h1.symm⟩
              rcases hgo with ⟨hkl, hkw⟩ | ⟨hno, hkE2⟩
              · have hv2 := at_eq s k hkl
                have hkl1 : (k : Int) < s.size := by omega
                have h1 := HWE.out
                rw [if_pos ⟨hkl, hkw⟩] at h1
                have hle := wordEnd_le s _ (k + 1) rfl (by omega)
                rw [← h1] at hle
                have H1 := Lib.hid h1
                clear h1
                generalize at' s k = c2 at *
                go_wp2_with ((go_at_call 24; refine (plain_calls _ _).mono ?_; rintro e w1 ⟨rfl, rfl⟩))
                go_round
                case rel => exact ⟨k + 1, by omega, by omega, by go_num, H1.out.symm⟩
                case measure => simp [intOf]; omega
              · subst hkE2
                have hka : a < k := by omega
                have hks : k ≤ s.size := by omega
                have hwl := fun w => Rword_calls (s.extract a k) (HS.out.extract a k) (by rw [ByteArray.size_extract]; omega) w
                unfold tokV at hwl
                have hrk : rK (s.extract a k) = if wE (s.extract a k) = 0 then wK (s.extract a k) else 0 := rfl
                have htok : wE (s.extract a k) = 0 → nextOf s a = (⟨wK (s.extract a k), wT (s.extract a k), wN (s.extract a k), a⟩, k, 0) := fun h => by
                  unfold nextOf
                  rw [HST.out, tokAt, if_neg (by omega), HC.out, if_neg h40, if_neg h41, if_neg h39, if_neg (by rw [hw]; simp), HE.out, if_pos h]
                have herr : wE (s.extract a k) ≠ 0 → nextOf s a = (zTok, a, wE (s.extract a k)) := fun h => by
                  unfold nextOf
                  rw [HST.out, tokAt, if_neg (by omega), HC.out, if_neg h40, if_neg h41, if_neg h39, if_neg (by rw [hw]; simp), HE.out, if_neg h]
                have hkr := wK_range (s.extract a k)
                generalize wE (s.extract a k) = er at *
                generalize wK (s.extract a k) = wk at *
                generalize wT (s.extract a k) = wt at *
                generalize wN (s.extract a k) = wn at *
                rw [hrk] at hwl
                have HWL := Lib.hid hwl
                have HTOK := Lib.hid htok
                have HERR := Lib.hid herr
                have HKR := Lib.hid hkr
                clear hwl htok herr hkr hrk
                have hgw : (k < s.size → ∀ w, Calls Try.prog 24 #[.int .u8 (at' s k)] w fun e w' => e = .returned (.bool false) ∧ w = w') := fun h w => by
                  have h1 := plain_calls (at' s k) w
                  rw [hno h] at h1
                  exact h1
                have HGW := Lib.hid hgw
                clear hgw hno
                by_cases her : er = 0
                · subst her
                  simp only [if_true] at HWL
                  clear M3
                  by_cases hkl : k < s.size
                  · have hq := hka
                    have hv2 := at_eq s k hkl
                    have hkl1 : (k : Int) < s.size := by omega
                    have HG2 := Lib.hid (HGW.out hkl)
                    generalize at' s k = c2 at *
                    go_wp2_with ((go_at_call 24; refine (HG2.out _).mono ?_; rintro e w1 ⟨rfl, rfl⟩))
                    refine (HWL.out _).mono ?_
                    rintro e w1 ⟨rfl, hu1⟩
                    have hown1 := hu1.ownsRow HO.out (fun _ _ x => x)
                    have HN1 := Lib.hid (HN.out.trans hu1)
                    have hws1 := HN1.out.size
                    have HO1 := Lib.hid (hown1.alloc (.cells #[.int .u8 wk, .string wt, .int .i64 wn, .int .i64 a] 34))
                    have M3 := Lib.hid (show w.heap.size ≤ ((w1.alloc (.cells #[.int .u8 wk, .string wt, .int .i64 wn, .int .i64 a] 34)).alloc (.cells #[.int .u8 wk, .string wt, .int .i64 wn, .int .i64 a] 34)).heap.size by simp; omega)
                    clear hu1 hown1
                    go_wp2_with (at_builtin; refine Bk.wpList_append2 ((w1.alloc (.cells #[.int .u8 wk, .string wt, .int .i64 wn, .int .i64 a] 34)).alloc (.cells #[.int .u8 wk, .string wt, .int .i64 wn, .int .i64 a] 34)) (by rfl) (.tmp 101) (.tmp 103) 26 (by rfl) w.heap.size 34 i0 _ 4 40 Try.underlying26 hi0 hz0 hz1 hz2 rfl (by decide) u5 L.length (tokCells L) (by rfl) (HO1.out.alloc (.cells #[.int .u8 wk, .string wt, .int .i64 wn, .int .i64 a] 34)) (w1.heap.size + 1) 1 1 (Tok.cells ⟨wk, wt, wn, a⟩) (by rfl) (by decide) (by rfl) (World.news_of_block (alloc2 w1 (.cells #[.int .u8 wk, .string wt, .int .i64 wn, .int .i64 a] 34) (.cells #[.int .u8 wk, .string wt, .int .i64 wn, .int .i64 a] 34))) (tok_one _) M1.out M2.out M3.out ?_; intro v1 w5 ho5 hg5)
                    go_roundw
                    case rel => exact ⟨k, rfl, SomeAt.more ((HN1.out.alloc _).alloc _) ha hLa HVB.out HT.out (x := ⟨wk, wt, wn, a⟩) (HTOK.out (by trivial)) (by have := HKR.out (by trivial); show wk ≠ 9; omega) ho5 hg5⟩
                    case measure => simp [intOf]; omega
                  · have hq := hka
                    have hke : k = s.size := by omega
                    subst hke
                    have hkl1 : ¬ (s.size : Int) < s.size := by omega
                    clear HGW HE HWA hkl hka hak hkE
                    go_wp2_with fail
                    refine (HWL.out _).mono ?_
                    rintro e w1 ⟨rfl, hu1⟩
                    have hown1 := hu1.ownsRow HO.out (fun _ _ x => x)
                    have HN1 := Lib.hid (HN.out.trans hu1)
                    have hws1 := HN1.out.size
                    have HO1 := Lib.hid (hown1.alloc (.cells #[.int .u8 wk, .string wt, .int .i64 wn, .int .i64 a] 34))
                    have M3 := Lib.hid (show w.heap.size ≤ ((w1.alloc (.cells #[.int .u8 wk, .string wt, .int .i64 wn, .int .i64 a] 34)).alloc (.cells #[.int .u8 wk, .string wt, .int .i64 wn, .int .i64 a] 34)).heap.size by simp; omega)
                    clear hu1 hown1
                    go_wp2_with (at_builtin; refine Bk.wpList_append2 ((w1.alloc (.cells #[.int .u8 wk, .string wt, .int .i64 wn, .int .i64 a] 34)).alloc (.cells #[.int .u8 wk, .string wt, .int .i64 wn, .int .i64 a] 34)) (by rfl) (.tmp 101) (.tmp 103) 26 (by rfl) w.heap.size 34 i0 _ 4 40 Try.underlying26 hi0 hz0 hz1 hz2 rfl (by decide) u5 L.length (tokCells L) (by rfl) (HO1.out.alloc (.cells #[.int .u8 wk, .string wt, .int .i64 wn, .int .i64 a] 34)) (w1.heap.size + 1) 1 1 (Tok.cells ⟨wk, wt, wn, a⟩) (by rfl) (by decide) (by rfl) (World.news_of_block (alloc2 w1 (.cells #[.int .u8 wk, .string wt, .int .i64 wn, .int .i64 a] 34) (.cells #[.int .u8 wk, .string wt, .int .i64 wn, .int .i64 a] 34))) (tok_one _) M1.out M2.out M3.out ?_; intro v1 w5 ho5 hg5)
                    go_roundw
                    case rel => exact ⟨s.size, rfl, SomeAt.more ((HN1.out.alloc _).alloc _) ha hLa HVB.out HT.out (x := ⟨wk, wt, wn, a⟩) (HTOK.out (by trivial)) (by have := HKR.out (by trivial); show wk ≠ 9; omega) ho5 hg5⟩
                    case measure => simp [intOf]; omega
                · simp only [if_neg her] at HWL
                  clear M3
                  by_cases hkl : k < s.size
                  · have hq := hka
                    have hv2 := at_eq s k hkl
                    have hkl1 : (k : Int) < s.size := by omega
                    have HG2 := Lib.hid (HGW.out hkl)
                    generalize at' s k = c2 at *
                    go_wp2_with ((go_at_call 24; refine (HG2.out _).mono ?_; rintro e w1 ⟨rfl, rfl⟩))
                    refine (HWL.out _).mono ?_
                    rintro e w1 ⟨rfl, hu1⟩
                    have hown1 := hu1.ownsRow HO.out (fun _ _ x => x)
                    have HN1 := Lib.hid (HN.out.trans hu1)
                    have hws1 := HN1.out.size
                    have hern : (er != 0) = true := by rw [bne_iff_ne]; exact her
                    have HU1 := Lib.hid hu1
                    clear hu1 hown1
                    go_wp2_with fail
                    refine bodyPost_ret (results_tmp3 rfl _ _ _) rfl ?_
                    exact SomePost.err HSOME.out (HU1.out.alloc _) (HERR.out her) her
                  · have hq := hka
                    have hke : k = s.size := by omega
                    subst hke
                    have hkl1 : ¬ (s.size : Int) < s.size := by omega
                    clear HGW HE HWA hkl hka hak hkE
                    go_wp2_with fail
                    refine (HWL.out _).mono ?_
                    rintro e w1 ⟨rfl, hu1⟩
                    have hown1 := hu1.ownsRow HO.out (fun _ _ x => x)
                    have HN1 := Lib.hid (HN.out.trans hu1)
                    have hws1 := HN1.out.size
                    have hern : (er != 0) = true := by rw [bne_iff_ne]; exact her
                    have HU1 := Lib.hid hu1
                    clear hu1 hown1
                    go_wp2_with fail
                    refine bodyPost_ret (results_tmp3 rfl _ _ _) rfl ?_
                    exact SomePost.err HSOME.out (HU1.out.alloc _) (HERR.out her) her
    · have hae : a = s.size := by omega
      subst hae
      have hltn : ¬ (s.size : Int) < s.size := by omega
      have HO := Lib.hid hown
      have M3 := Lib.hid (show w.heap.size ≤ (wr.alloc (.cells #[.int .u8 9, .string ⟨#[]⟩, .int .i64 0, .int .i64 s.size] 34)).heap.size by simp; omega)
      clear hown
      go_wp2_with ((at_builtin; refine Bk.wpList_append2 (wr.alloc (.cells #[.int .u8 9, .string ⟨#[]⟩, .int .i64 0, .int .i64 s.size] 34)) (by rfl) (.tmp 106) (.tmp 109) 26 (by rfl) w.heap.size 34 i0 _ 4 40 Try.underlying26 hi0 hz0 hz1 hz2 rfl (by decide) u5 L.length (tokCells L) (by rfl) (HO.out.alloc (.cells #[.int .u8 9, .string ⟨#[]⟩, .int .i64 0, .int .i64 s.size] 34)) wr.heap.size 1 1 (Tok.cells ⟨9, ⟨#[]⟩, 0, s.size⟩) (by rfl) (by decide) (by rfl) (World.news_of_block (heap_alloc_new wr (.cells #[.int .u8 9, .string ⟨#[]⟩, .int .i64 0, .int .i64 s.size] 34))) (tok_one _) M1.out M2.out M3.out ?_; intro v1 w5 ho5 hg5))
      refine bodyPost_ret (results_tmp3 rfl _ _ _) rfl ?_
      exact SomePost.done (HN.out.alloc _) HVB.out HT.out ho5 hg5
end Go.Proofs.Ytecoahdeafobkaa
