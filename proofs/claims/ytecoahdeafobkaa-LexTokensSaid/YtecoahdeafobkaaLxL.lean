/- Lex: Tokens. -/
import Derived.Test.YtecoahdeafobkaaLxK
import Derived.Deep.AppendLies
import Derived.Deep.DeepCutAuto
namespace Go.Proofs.Ytecoahdeafobkaa
open Go.RowKit
set_option linter.unusedVariables false
set_option linter.unusedSimpArgs false
theorem info34 : (Try.prog.info? 34).map (fun i => (i.zero, i.size, i.bytes)) = some (some (.agg #[.int .u8 0, .string ⟨#[]⟩, .int .i64 0, .int .i64 0]), 4, 40) := by kernel_rfl
theorem tok_one (x : Tok) : ∀ u ∈ x.cells, u.oneCell' = true := by
  have := tokCells_one [x]
  simpa [tokCells] using this
theorem own_lt {w : World} {base : Nat} {e : TypeId} {size : Nat} {v : Value} {n : Nat} {xs : List Value} (h : w.ownsRow base e size v n xs) : ∀ k, v.ownBlock = some k → base ≤ k ∧ k < w.heap.size := by
  intro k hk
  rcases h.2 with ⟨rfl, _⟩ | ⟨g, cap, cur, rfl, hb, hg, _⟩
  · exact absurd hk (by simp [Value.ownBlock])
  · simp only [Value.ownBlock, Option.some.injEq] at hk
    subst hk
    refine ⟨hb, ?_⟩
    rcases Nat.lt_or_ge g w.heap.size with h | h
    · exact h
    · rw [Array.getElem?_eq_none h] at hg; exact absurd hg (by simp)
theorem own_cells {w : World} {base : Nat} {e : TypeId} {size : Nat} {g cap n : Nat} {xs : List Value} (h : w.ownsRow base e size (.slice (some ⟨g, 0, none⟩) n cap) n xs) :
    ∀ j u, xs[j]? = some u → w.cell? (Addr.add ⟨g, 0, none⟩ j) = some u := by
  intro j u hj
  rcases h.2 with ⟨h0, _⟩ | ⟨g', cap', cur, hv, hb, hg, _, _, _, ht⟩
  · exact absurd h0 (by simp)
  · simp only [Value.slice.injEq, Option.some.injEq, Addr.mk.injEq, and_true] at hv
    obtain ⟨rfl, _⟩ := hv
    rw [← ht, List.getElem?_take] at hj
    split at hj
    · rw [Array.getElem?_toList] at hj
      by_cases h0 : j = 0
      · subst h0; simp [World.cell?, Addr.add, hg, hj]
      · simp [World.cell?, Addr.add, hg, hj, h0]
    · exact absurd hj (by simp)

set_option maxHeartbeats 1000000 in
theorem tokens_calls (s : ByteArray) (hs : Small s) (hm : decide ((65536 : Int) < s.size) = false) (w : World) :
    Calls Try.prog 12 #[.string s] w fun e w' => New w w' ∧
      (((toks s 0).2.1 ≠ 0 ∧ e = .returned (.tuple #[.slice none 0 0, .int .i64 (toks s 0).2.1, .int .i64 (toks s 0).2.2])) ∨
       ((toks s 0).2.1 = 0 ∧ ∃ g cap, e = .returned (.tuple #[.slice (some ⟨g, 0, none⟩) (toks s 0).1.length cap, .int .i64 0, .int .i64 0]) ∧ w'.ownsRow w.heap.size 34 4 (.slice (some ⟨g, 0, none⟩) (toks s 0).1.length cap) (toks s 0).1.length (tokCells (toks s 0).1))) := by
  have hsz := hs.le
  obtain ⟨i0, hi0, hz0, hz1, hz2⟩ := info_parts info34
  obtain ⟨R, hR⟩ : ∃ R, toks s 0 = R := ⟨_, rfl⟩
  rw [hR]
  have HR := Lib.hid hR
  clear hR
  go_enter Try.func12, Try.ntmps12
  go_wp2
  go_loopw [5, 6] (fun v i wr => New w wr ∧ ∃ (L : List Tok) (a : Nat), a ≤ s.size ∧ i = .int .i64 a ∧ L.length ≤ a ∧ wr.ownsRow w.heap.size 34 4 v L.length (tokCells L) ∧ toks s 0 = (L ++ (toks s a).1, (toks s a).2)) (fun v i _ => s.size + 1 - (intOf i).toNat)
  case atStart => exact ⟨Upd.refl _ _, [], 0, Nat.zero_le _, rfl, Nat.le_refl _, ⟨rfl, .inl ⟨rfl, rfl⟩⟩, by simp⟩
  case round =>
    obtain ⟨hnew, L, a, ha, rfl, hLa, hown, htk⟩ := hrel
    have Htk := Lib.hid htk
    have hws := hnew.size
    have Hnew := Lib.hid hnew
    clear htk hnew
    have hn0 := next_calls s hs a ha
    obtain ⟨⟨⟨k, t, n, ta⟩, p, er⟩, hr⟩ : ∃ r, nextOf s a = r := ⟨_, rfl⟩
    have Hr := Lib.hid hr
    rw [hr] at hn0
    simp only [Tok.v, tokV] at hn0
    have hn := Lib.hid hn0
    clear hn0 hr
    by_cases he : (er != 0) = true
    · go_wp2_with (go_at_call 26; refine (hn.out _).mono ?_; rintro e w1 ⟨rfl, hu⟩; have hown1 := hu.ownsRow hown (fun _ _ x => x); have hls := hu.size; have HU := Lib.hid hu; clear hu)
      refine bodyPost_ret (results_tmp3 rfl _ _ _) rfl ⟨(Hnew.out.trans HU.out).alloc _, .inl ?_⟩
      have h1 := toks_err (s := s) (a := a) (by rw [Hr.out]; simpa using he)
      have h2 := HR.out.symm.trans Htk.out
      rw [h1, Hr.out] at h2
      rw [h2]
      exact ⟨by simpa using he, rfl⟩
    · replace he : (er != 0) = false := by simpa using he
      have he0 : er = 0 := by simpa using he
      have hsm : s.size ≤ 1048576 := by omega
      have m3 : L.length + 1 ≤ maxLen := by unfold maxLen; omega
      have m4 : (L.length + 1) * 40 ≤ 140737488355328 := by omega
      have m5 : 0 + (L.length + 1) ≤ maxLen := by unfold maxLen; omega
      have m6 : (0 + (L.length + 1)) * 40 ≤ 140737488355328 := by omega
      replace m5 := Lib.hid m5
      replace m6 := Lib.hid m6
      have hone2 : ∀ u ∈ tokCells L ++ Tok.cells ⟨k, t, n, ta⟩, u.oneCell' = true := by
        intro u hu
        rcases List.mem_append.1 hu with h | h
        · exact tokCells_one L u h
        · exact tok_one _ u h
      replace hone2 := Lib.hid hone2
      clear hsm
      go_upto_region 9 with (first | (go_at_call 26; refine (hn.out _).mono ?_; rintro e w1 ⟨rfl, hu⟩; have hown1 := hu.ownsRow hown (fun _ _ x => x); have hls := hu.size; have HU := Lib.hid hu; clear hu) | (at_builtin; refine wpList_append_lies _ rfl _ _ 26 rfl w.heap.size 34 i0 (.agg #[.int .u8 0, .string ⟨#[]⟩, .int .i64 0, .int .i64 0]) 4 40 Try.underlying26 hi0 hz0 hz1 hz2 rfl (by decide) _ _ _ rfl ((hown1.alloc _).alloc _) ⟨w1.heap.size + 1, 0, none⟩ 1 1 (Tok.cells ⟨k, t, n, ta⟩) rfl rfl (World.news_of_block (by exact alloc2 _ _ _)) (tok_one _) (by decide) m3 m4 (by simp; omega) (w1.heap.size + 2) (by simp) ?_; intro g cap' w2 ho hgr hat _))
      have hlt := own_lt hown
      have hu2 := (Upd.refl (fun q => u5.ownBlock = some q) _).grown hgr (fun q hq _ => hq)
      have hbox := hu2.heap (k := w1.heap.size) (o := .cells #[.int .u8 k, .string t, .int .i64 n, .int .i64 ta] 34 (0, 0)) (by exact alloc1 _ _ _) (fun x => by have := (hlt _ x).2; omega)
      obtain ⟨z0, z1, z2, z3, zf0, zf1, zf2, zf3⟩ := blk4f hbox
      have HN2 := Lib.hid ((((Hnew.out.trans HU.out).alloc (.cells #[.int .u8 k, .string t, .int .i64 n, .int .i64 ta] 34)).alloc _).grown hgr (fun q hq hl => by have := (hlt q hq).1; omega))
      have hw2 := HN2.out.size
      have Ho := Lib.hid ho
      clear hu2 hbox hgr hat hown1 hown
      by_cases hk : k = 9
      · have hk9 : (k == 9) = true := by simpa using hk
        have HK := Lib.hid hk
        clear hk
        clear ho
        go_wp2_with ((at_builtin; go_loud (refine wpList_append_lies _ rfl _ _ 26 rfl w.heap.size 34 i0 (.agg #[.int .u8 0, .string ⟨#[]⟩, .int .i64 0, .int .i64 0]) 4 40 Try.underlying26 hi0 hz0 hz1 hz2 rfl (by decide) _ _ _ rfl (World.ownsRow_nil _ _ _ _) ⟨g, 0, none⟩ (L.length + 1) cap' (tokCells L ++ Tok.cells ⟨k, t, n, ta⟩) rfl Ho.out.1 (own_cells Ho.out) hone2.out (by omega) m5.out m6.out (by omega) w2.heap.size rfl ?_; intro g2 cap2 w3 ho2 hgr2 hat2 _)))
        refine bodyPost_ret (results_tmp3 rfl _ _ _) rfl ⟨HN2.out.grown hgr2 (fun q hq _ => by cases (show (none : Option Nat) = some q from hq)), .inr ?_⟩
        have h1 := toks_end (s := s) (a := a) (by rw [Hr.out, he0]) (by rw [Hr.out]; exact HK.out)
        have h2 := HR.out.symm.trans Htk.out
        rw [h1, Hr.out] at h2
        rw [h2]
        refine ⟨rfl, g2, cap2, ?_, ?_⟩
        · simp
        · simp only [List.length_append, List.length_cons, List.length_nil, tokCells_append]
          simpa using ho2
      · have hk9 : (k == 9) = false := by simpa using hk
        clear ho
        go_wp2_with (fail)
        go_roundw
        case rel =>
          have hpl := nextOf_place s a ha (by rw [Hr.out, he0]) (by rw [Hr.out]; exact hk)
          rw [Hr.out] at hpl
          dsimp only at hpl
          refine ⟨HN2.out, L ++ [⟨k, t, n, ta⟩], p, hpl.2, rfl, by simp; omega, ?_, ?_⟩
          · rw [tokCells_append]; simpa using Ho.out
          · have h1 := toks_more (s := s) (a := a) ha (by rw [Hr.out, he0]) (by rw [Hr.out]; exact hk)
            rw [Htk.out, h1, Hr.out]
            simp
        case measure =>
          have hpl := nextOf_place s a ha (by rw [Hr.out, he0]) (by rw [Hr.out]; exact hk)
          rw [Hr.out] at hpl
          dsimp only at hpl
          simp [intOf]; omega
end Go.Proofs.Ytecoahdeafobkaa
