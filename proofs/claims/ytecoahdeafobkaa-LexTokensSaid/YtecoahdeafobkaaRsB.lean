/- Tokens, of the program and of the reference, as one answer; two lists of tokens held against each other. -/
import Derived.Test.YtecoahdeafobkaaRsA
import Derived.Deep.QuietTactic
import Derived.BigQuiet
namespace Go.Proofs.Ytecoahdeafobkaa
open Go.RowKit
set_option linter.unusedVariables false
set_option linter.unusedSimpArgs false
attribute [local go_sem high] eqTok

/-- What Tokens answers. -/
def tokR (s : ByteArray) : List Tok × Int × Nat :=
  if (65536 : Int) < s.size then ([], 2, 0) else if (toks s 0).2.1 = 0 then ((toks s 0).1, 0, 0) else ([], (toks s 0).2.1, (toks s 0).2.2)
/-- What All goes through. -/
def allR (s : ByteArray) : List Tok := if (65536 : Int) < s.size then [] else (toks s 0).1
def ResPost (R : List Tok × Int × Nat) (w : World) (e : Ending) (w' : World) : Prop :=
  New w w' ∧ ∃ v, e = .returned (.tuple #[v, .int .i64 R.2.1, .int .i64 R.2.2]) ∧ w'.ownsRow w.heap.size 34 4 v R.1.length (tokCells R.1)
def AllPost (R : List Tok) (w : World) (e : Ending) (w' : World) : Prop :=
  New w w' ∧ ∃ v, e = .returned v ∧ w'.ownsRow w.heap.size 34 4 v R.length (tokCells R)
theorem nil_own (w : World) (base : Nat) : w.ownsRow base 34 4 (.slice none 0 0) ([] : List Tok).length (tokCells []) := ⟨rfl, .inl ⟨rfl, rfl⟩⟩
theorem tokens_res (s : ByteArray) (hs : Small s) (w : World) : Calls Try.prog 12 #[.string s] w (ResPost (tokR s) w) := by
  have hsz := hs.le
  by_cases hm : (65536 : Int) < s.size
  · have hR : tokR s = ([], 2, 0) := by rw [tokR, if_pos hm]
    rw [hR]
    clear hR
    go_enter Try.func12, Try.ntmps12
    go_wp2_with fail
    refine bodyPost_ret (results_tmp3 rfl _ _ _) rfl ⟨Upd.refl _ _, _, rfl, nil_own _ _⟩
  · refine (tokens_calls s hs (by simp; omega) w).mono ?_
    rintro e w' ⟨hn, ⟨he, rfl⟩ | ⟨he, g, cap, rfl, ho⟩⟩
    · have hR : tokR s = ([], (toks s 0).2.1, (toks s 0).2.2) := by rw [tokR, if_neg hm, if_neg he]
      rw [hR]
      exact ⟨hn, _, rfl, nil_own _ _⟩
    · have hR : tokR s = ((toks s 0).1, 0, 0) := by rw [tokR, if_neg hm, if_pos he]
      rw [hR]
      exact ⟨hn, _, rfl, ho⟩
set_option maxHeartbeats 1000000 in
theorem rtokens_res (s : ByteArray) (hs : Small s) (w : World) : Calls Try.prog 16 #[.string s] w (ResPost (tokR s) w) := by
  have hsz := hs.le
  by_cases hm : (65536 : Int) < s.size
  · have hR : tokR s = ([], 2, 0) := by rw [tokR, if_pos hm]
    rw [hR]
    clear hR
    go_enter Try.func16, Try.ntmps16
    go_wp2_with fail
    refine bodyPost_ret (results_tmp3 rfl _ _ _) rfl ⟨Upd.refl _ _, _, rfl, nil_own _ _⟩
  · have hs1 := some_calls s hs w
    by_cases he : (toks s 0).2.1 = 0
    · have hR : tokR s = ((toks s 0).1, 0, 0) := by rw [tokR, if_neg hm, if_pos he]
      rw [hR]
      unfold SomePost at hs1
      rw [he] at hs1
      have HS := Lib.hid hs1
      clear hR hs1 he
      generalize (toks s 0).2.2 = pl at *
      generalize (toks s 0).1 = L at *
      have HM := Lib.hid hm
      have hm2 : ¬ (65536 : Int) < s.size := hm
      clear hm
      go_enter Try.func16, Try.ntmps16
      go_wp2_with fail
      refine HS.out.mono ?_
      rintro e w1 ⟨hn, v, rfl, ho⟩
      have HN := Lib.hid hn
      have HO := Lib.hid ho
      clear hn ho
      go_wp2_with fail
      refine bodyPost_ret (results_tmp3 rfl _ _ _) rfl ⟨HN.out, _, rfl, HO.out⟩
    · have hR : tokR s = ([], (toks s 0).2.1, (toks s 0).2.2) := by rw [tokR, if_neg hm, if_neg he]
      rw [hR]
      have hen : ((toks s 0).2.1 != 0) = true := by rw [bne_iff_ne]; exact he
      unfold SomePost at hs1
      clear hR he
      generalize (toks s 0).2.1 = er at *
      generalize (toks s 0).2.2 = pl at *
      generalize (toks s 0).1 = L at *
      have HS := Lib.hid hs1
      have hm2 : ¬ (65536 : Int) < s.size := hm
      clear hm hs1
      go_enter Try.func16, Try.ntmps16
      go_wp2_with fail
      refine HS.out.mono ?_
      rintro e w1 ⟨hn, v, rfl, ho⟩
      have HN := Lib.hid hn
      clear hn ho
      go_wp2_with fail
      refine bodyPost_ret (results_tmp3 rfl _ _ _) rfl ⟨HN.out, _, rfl, nil_own _ _⟩
set_option maxHeartbeats 1000000 in
theorem rall_res (s : ByteArray) (hs : Small s) (w : World) : Calls Try.prog 17 #[.string s] w (AllPost (allR s) w) := by
  have hsz := hs.le
  by_cases hm : (65536 : Int) < s.size
  · have hR : allR s = [] := by rw [allR, if_pos hm]
    rw [hR]
    clear hR
    go_enter Try.func17, Try.ntmps17
    go_wp2_with fail
    go_ret
    exact ⟨Upd.refl _ _, _, rfl, nil_own _ _⟩
  · have hs1 := some_calls s hs w
    have hR : allR s = (toks s 0).1 := by rw [allR, if_neg hm]
    rw [hR]
    unfold SomePost at hs1
    clear hR
    generalize (toks s 0).2.1 = er at *
    generalize (toks s 0).2.2 = pl at *
    generalize (toks s 0).1 = L at *
    have HS := Lib.hid hs1
    have hm2 : ¬ (65536 : Int) < s.size := hm
    clear hm hs1
    go_enter Try.func17, Try.ntmps17
    go_wp2_with fail
    refine HS.out.mono ?_
    rintro e w1 ⟨hn, v, rfl, ho⟩
    have HN := Lib.hid hn
    have HO := Lib.hid ho
    clear hn ho
    go_wp2_with fail
    go_ret
    exact ⟨HN.out, _, rfl, HO.out⟩
/-- A list of tokens, to be read. -/
def TokRd (w : World) (v : Value) (L : List Tok) : Prop := ∃ Ad c, v = .slice Ad L.length c ∧ ∀ j u, (tokCells L)[j]? = some u → ∃ g, Ad = some ⟨g, 0, none⟩ ∧ g < w.heap.size ∧ w.cell? ⟨g, j, none⟩ = some u
theorem TokRd.of_own {w : World} {base : Nat} {v : Value} {L : List Tok} (h : w.ownsRow base 34 4 v L.length (tokCells L)) : TokRd w v L := by
  obtain ⟨Ad, c, rfl⟩ := Bk.own_form h
  refine ⟨Ad, c, rfl, fun j u hj => ?_⟩
  have hl := (List.getElem?_eq_some_iff.1 hj).1
  rw [tokCells_length] at hl
  obtain ⟨g, cap, he⟩ := Bk.own_some h (by omega)
  simp only [Value.slice.injEq, true_and] at he
  obtain ⟨rfl, rfl⟩ := he
  have hc := (Bk.own_at h j u hj).1
  exact ⟨g, rfl, World.block_lt_of_cell? w ⟨g, j, none⟩ hc, hc⟩
theorem TokRd.upd {F : Nat → Prop} {w w' : World} {v : Value} {L : List Tok} (h : TokRd w v L) (hu : Upd F w w') (hF : ∀ b, v.ownBlock = some b → ¬ F b) : TokRd w' v L := by
  obtain ⟨Ad, c, rfl, h⟩ := h
  refine ⟨Ad, c, rfl, fun j u hj => ?_⟩
  obtain ⟨g, rfl, hg, hc⟩ := h j u hj
  exact ⟨g, rfl, Nat.lt_of_lt_of_le hg hu.size, hu.cell hc (hF g rfl)⟩
theorem TokRd.new {w w' : World} {v : Value} {L : List Tok} (h : TokRd w v L) (hu : New w w') : TokRd w' v L := h.upd hu (fun _ _ x => x)
set_option maxHeartbeats 2000000 in
theorem sameTokens_calls {w : World} {x y : Value} {L : List Tok} (hx : TokRd w x L) (hy : TokRd w y L) (hL : L.length ≤ 9223372036854775806) : Calls Try.prog 19 #[x, y] w fun e w' => e = .returned (.bool true) ∧ New w w' := by
  have HX := Lib.hid hx
  have HY := Lib.hid hy
  obtain ⟨A1, c1, rfl, h1⟩ := hx
  obtain ⟨A2, c2, rfl, h2⟩ := hy
  have H1 := Lib.hid h1
  have H2 := Lib.hid h2
  clear h1 h2
  go_enter Try.func19, Try.ntmps19
  go_wp2_with fail
  go_loopw [5] (fun ii wr => ∃ i : Nat, i ≤ L.length ∧ ii = .int .i64 i ∧ New w wr) (fun ii _ => L.length - (intOf ii).toNat)
  case atStart => exact ⟨0, Nat.zero_le _, rfl, Upd.refl _ _⟩
  case round =>
    obtain ⟨i, hil, rfl, hn⟩ := hrel
    have i1 : (0 : Int) ≤ i := by omega
    have e1 : IntKind.i64.wrap ((i : Int) + 1) = (i : Int) + 1 := IntWalk.i64_in _ (by omega)
    by_cases hi : i < L.length
    · have i0 : (i : Int) < L.length := by omega
      have hLi : L[i]? = some L[i] := List.getElem?_eq_getElem hi
      obtain ⟨g1, rfl, hg1, a0⟩ := H1.out (i * 4 + 0) _ ((tokCells_at L i _ hLi 0 (by omega)).trans rfl)
      obtain ⟨q1, e2, -, a1⟩ := H1.out (i * 4 + 1) _ ((tokCells_at L i _ hLi 1 (by omega)).trans rfl)
      obtain ⟨q2, e3, -, a2⟩ := H1.out (i * 4 + 2) _ ((tokCells_at L i _ hLi 2 (by omega)).trans rfl)
      obtain ⟨q3, e4, -, a3⟩ := H1.out (i * 4 + 3) _ ((tokCells_at L i _ hLi 3 (by omega)).trans rfl)
      simp only [Option.some.injEq, Addr.mk.injEq, and_true] at e2 e3 e4
      subst e2 e3 e4
      obtain ⟨g2, rfl, hg2, b0⟩ := H2.out (i * 4 + 0) _ ((tokCells_at L i _ hLi 0 (by omega)).trans rfl)
      obtain ⟨q1, e2, -, b1⟩ := H2.out (i * 4 + 1) _ ((tokCells_at L i _ hLi 1 (by omega)).trans rfl)
      obtain ⟨q2, e3, -, b2⟩ := H2.out (i * 4 + 2) _ ((tokCells_at L i _ hLi 2 (by omega)).trans rfl)
      obtain ⟨q3, e4, -, b3⟩ := H2.out (i * 4 + 3) _ ((tokCells_at L i _ hLi 3 (by omega)).trans rfl)
      simp only [Option.some.injEq, Addr.mk.injEq, and_true] at e2 e3 e4
      subst e2 e3 e4
      replace a0 := hn.cell a0 (fun x => x)
      replace a1 := hn.cell a1 (fun x => x)
      replace a2 := hn.cell a2 (fun x => x)
      replace a3 := hn.cell a3 (fun x => x)
      replace b0 := hn.cell b0 (fun x => x)
      replace b1 := hn.cell b1 (fun x => x)
      replace b2 := hn.cell b2 (fun x => x)
      replace b3 := hn.cell b3 (fun x => x)
      rw [Nat.add_zero] at a0 b0
      generalize L[i] = T at *
      have HN := Lib.hid hn
      clear hn hLi
      go_wp2_with fail
      go_quiet (fail)
      go_wp2_with fail
      go_roundw
      case rel => exact ⟨i + 1, by omega, by go_num, HN.out.drewN _⟩
      case measure => simp [intOf]; omega
    · have hii : i = L.length := by omega
      subst hii
      have HN := Lib.hid hn
      clear hn
      go_wp2_with fail
      go_ret
      exact ⟨rfl, HN.out⟩
end Go.Proofs.Ytecoahdeafobkaa
