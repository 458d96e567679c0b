/- Lex: what a word is: one law for the program's word and the reference's Word. -/
import Derived.Test.YtecoahdeafobkaaLxE
namespace Go.Proofs.Ytecoahdeafobkaa
open Go.RowKit
set_option linter.unusedVariables false

def numE (r : ByteArray) (m : Bool) : Int := if okN r then (if m = true then 0 else if pre r r.size < 576460752303423488 then 0 else 52) else 52
def numV (r : ByteArray) (m : Bool) : Int := if numE r m = 0 then (if m = true then - pre r r.size else pre r r.size) else 0
theorem proNum_eq (r : ByteArray) (m : Bool) : proNum r m = .tuple #[.int .i64 (numV r m), .int .i64 (numE r m)] := by
  unfold numV numE proNum
  by_cases h : okN r
  · cases m
    · by_cases h2 : pre r r.size < 576460752303423488
      · simp [h, h2]
      · simp [h, h2]
    · simp [h]
  · simp [h]
theorem refNum_yes (r : ByteArray) (m : Bool) (he : numE r m = 0) : refNum r m = .tuple #[.int .i64 (numV r m), .bool true] := by
  unfold numV; rw [if_pos he]; unfold numE at he; unfold refNum
  by_cases h : okN r
  · cases m
    · by_cases h2 : pre r r.size < 576460752303423488
      · simp [h, h2]
      · simp [h, h2] at he
    · simp [h]
  · simp [h] at he
theorem refNum_no (r : ByteArray) (m : Bool) (he : numE r m ≠ 0) : ∃ n, refNum r m = .tuple #[.int .i64 n, .bool false] := by
  unfold numE at he; unfold refNum
  by_cases h : okN r
  · cases m
    · by_cases h2 : pre r r.size < 576460752303423488
      · simp [h, h2] at he
      · exact ⟨pre r r.size, by simp [h, h2]⟩
    · simp [h] at he
  · exact ⟨0, by simp [h]⟩
theorem numE_cases (r : ByteArray) (m : Bool) : numE r m = 0 ∨ numE r m = 52 := by
  unfold numE; split
  · split
    · exact .inl rfl
    · split
      · exact .inl rfl
      · exact .inr rfl
  · exact .inr rfl

def badB (s : ByteArray) : Bool := (at' s 0 == 35) || (decide ((bare s).size ≠ 0) && isDI (at' (bare s) 0)) || decide ((32 : Int) < s.size)
/-- 0 dot, 1 true, 2 false, 3 digits, 4 no text, 5 a symbol. -/
def cls (s : ByteArray) : Nat := if s.toList == [46] then 0 else if s.toList == [35, 116] then 1 else if s.toList == [35, 102] then 2 else if digB (bare s) then 3 else if badB s then 4 else 5
def wE (s : ByteArray) : Int := if cls s = 3 then numE (bare s) (isNeg s) else if cls s = 4 then 51 else 0
def wK (s : ByteArray) : Int := if cls s = 0 then 4 else if cls s = 1 then 8 else if cls s = 2 then 7 else if cls s = 3 then 5 else if cls s = 4 then 0 else 6
def wT (s : ByteArray) : ByteArray := if cls s = 5 then s else ⟨#[]⟩
def wN (s : ByteArray) : Int := if cls s = 3 then numV (bare s) (isNeg s) else 0
def rK (s : ByteArray) : Int := if wE s = 0 then wK s else 0

theorem word_calls (s : ByteArray) (hs : Small s) (hz : 0 < s.size) (w : World) :
    Calls Try.prog 23 #[.string s] w fun e w' => e = .returned (.tuple #[tokV (wK s) (wT s) (wN s) 0, .int .i64 (wE s)]) ∧ New w w' := by
  by_cases h0 : (s.toList == [46]) = true
  · have hc : cls s = 0 := by simp only [cls, h0, if_true]
    simp only [wK, wT, wN, wE, hc]
    exact word_dot s hs h0 w
  · replace h0 : (s.toList == [46]) = false := by simpa using h0
    by_cases h1 : (s.toList == [35, 116]) = true
    · have hc : cls s = 1 := by simp [cls, h0, h1]
      simp only [wK, wT, wN, wE, hc]
      exact word_true s hs h0 h1 w
    · replace h1 : (s.toList == [35, 116]) = false := by simpa using h1
      by_cases h2 : (s.toList == [35, 102]) = true
      · have hc : cls s = 2 := by simp [cls, h0, h1, h2]
        simp only [wK, wT, wN, wE, hc]
        exact word_false s hs h0 h1 h2 w
      · replace h2 : (s.toList == [35, 102]) = false := by simpa using h2
        cases hd : digB (bare s)
        · cases hb : badB s
          · have hc : cls s = 5 := by simp [cls, h0, h1, h2, hd, hb]
            simp only [wK, wT, wN, wE, hc]
            simp only [badB, Bool.or_eq_false_iff] at hb
            obtain ⟨⟨hA, hB⟩, hl⟩ := hb
            by_cases he : (bare s).size = 0
            · exact word_symD s hs h0 h1 h2 hd hz _ rfl hA (by rw [empty_iff]; simp [he]) hl w
            · exact word_symC s hs h0 h1 h2 hd hz _ rfl hA (by rw [empty_iff]; simp [he]) _ rfl (by simpa [he] using hB) hl w
          · have hc : cls s = 4 := by simp [cls, h0, h1, h2, hd, hb]
            simp only [wK, wT, wN, wE, hc]
            cases hA : (at' s 0 == 35)
            · by_cases he : (bare s).size = 0
              · have hl : decide ((32 : Int) < s.size) = true := by simpa [badB, hA, he] using hb
                exact word_badD s hs h0 h1 h2 hd hz _ rfl hA (by rw [empty_iff]; simp [he]) hl w
              · cases hB : isDI (at' (bare s) 0)
                · have hl : decide ((32 : Int) < s.size) = true := by simpa [badB, hA, hB] using hb
                  exact word_badC s hs h0 h1 h2 hd hz _ rfl hA (by rw [empty_iff]; simp [he]) _ rfl hB hl w
                · exact word_badB s hs h0 h1 h2 hd hz _ rfl hA (by rw [empty_iff]; simp [he]) _ rfl hB w
            · exact word_badA s hs h0 h1 h2 hd hz _ rfl hA w
        · have hc : cls s = 3 := by simp [cls, h0, h1, h2, hd]
          simp only [wK, wT, wN, wE, hc]
          exact word_num s hs h0 h1 h2 hd _ _ (proNum_eq _ _) w

theorem bare_pos {s : ByteArray} (h : at' s 0 ≠ 45) : bare s = s := by rw [bare, if_neg (fun x => h x.2)]
theorem bare_neg {s : ByteArray} (hz : 0 < s.size) (h : at' s 0 = 45) : bare s = s.extract 1 s.size := by rw [bare, if_pos ⟨by omega, h⟩]
theorem at_extract (s : ByteArray) (a b i : Nat) (h : a + i < b) : at' (s.extract a b) i = at' s (a + i) := by
  unfold at'
  rw [Lib.extract_data]
  simp only [List.getD, List.getElem?_take, List.getElem?_drop]
  rw [if_pos (by omega)]

theorem Rword_calls (s : ByteArray) (hs : Small s) (hz : 0 < s.size) (w : World) :
    Calls Try.prog 25 #[.string s] w fun e w' => e = .returned (.tuple #[tokV (rK s) (wT s) (wN s) 0, .int .i64 (wE s)]) ∧ New w w' := by
  by_cases h0 : (s.toList == [46]) = true
  · have hc : cls s = 0 := by simp only [cls, h0, if_true]
    simp only [rK, wK, wT, wN, wE, hc]
    exact Rword_dot s hs h0 w
  · replace h0 : (s.toList == [46]) = false := by simpa using h0
    by_cases h1 : (s.toList == [35, 116]) = true
    · have hc : cls s = 1 := by simp [cls, h0, h1]
      simp only [rK, wK, wT, wN, wE, hc]
      exact Rword_true s hs h0 h1 w
    · replace h1 : (s.toList == [35, 116]) = false := by simpa using h1
      by_cases h2 : (s.toList == [35, 102]) = true
      · have hc : cls s = 2 := by simp [cls, h0, h1, h2]
        simp only [rK, wK, wT, wN, wE, hc]
        exact Rword_false s hs h0 h1 h2 w
      · replace h2 : (s.toList == [35, 102]) = false := by simpa using h2
        by_cases hn : at' s 0 = 45
        · have hb := bare_neg hz hn
          have hneg : isNeg s = true := by simp only [isNeg]; exact decide_eq_true ⟨by omega, hn⟩
          have hbz : (bare s).size = s.size - 1 := by rw [hb, ByteArray.size_extract]; omega
          have h35 : (at' s 0 == 35) = false := by rw [hn]; rfl
          cases hd : digB (bare s)
          · cases hbb : badB s
            · have hc : cls s = 5 := by simp [cls, h0, h1, h2, hd, hbb]
              simp only [rK, wK, wT, wN, wE, hc]
              simp only [badB, Bool.or_eq_false_iff] at hbb
              obtain ⟨⟨_, hB⟩, hl⟩ := hbb
              by_cases h1s : 1 < s.size
              · exact Rword_sym_n s (bare s) hs hs.bare h0 h1 h2 hz _ rfl hn hb.symm hd (by simp; omega) (by omega) _ rfl (by
                  have : (bare s).size ≠ 0 := by omega
                  rw [hb, at_extract _ _ _ _ (by omega)] at hB
                  rw [← hb] at hB
                  simpa [this] using hB) hl w
              · exact Rword_symD_n s (bare s) hs hs.bare h0 h1 h2 hz _ rfl hn hb.symm hd (by simp; omega) hl w
            · have hc : cls s = 4 := by simp [cls, h0, h1, h2, hd, hbb]
              simp only [rK, wK, wT, wN, wE, hc]
              by_cases h1s : 1 < s.size
              · have hat : at' (bare s) 0 = at' s 1 := by rw [hb, at_extract _ _ _ _ (by omega)]
                cases hB : isDI (at' s 1)
                · exact Rword_badC_n s (bare s) hs hs.bare h0 h1 h2 hz _ rfl hn hb.symm hd (by simp; omega) (by omega) _ rfl hB (by simpa [badB, h35, hat, hB] using hbb) w
                · exact Rword_badB_n s (bare s) hs hs.bare h0 h1 h2 hz _ rfl hn hb.symm hd (by simp; omega) (by omega) _ rfl hB w
              · have hz1 : (bare s).size = 0 := by omega
                have : decide ((32 : Int) < s.size) = true := by simpa [badB, h35, hz1] using hbb
                have := of_decide_eq_true this
                omega
          · have hc : cls s = 3 := by simp [cls, h0, h1, h2, hd]
            rcases numE_cases (bare s) (isNeg s) with he | he
            · have hp := refNum_yes _ _ he
              simp only [rK, wK, wT, wN, wE, hc, he]
              rw [hneg] at hp ⊢
              exact Rword_num_n s (bare s) hs hs.bare h0 h1 h2 hz _ rfl hn hb.symm hd _ hp w
            · obtain ⟨n, hp⟩ := refNum_no (bare s) (isNeg s) (by omega)
              have hv : numV (bare s) (isNeg s) = 0 := by unfold numV; rw [if_neg (by omega)]
              simp only [rK, wK, wT, wN, wE, hc, he, hv]
              rw [hneg] at hp
              exact Rword_big_n s (bare s) hs hs.bare h0 h1 h2 hz _ rfl hn hb.symm hd n hp w
        · have hb := bare_pos hn
          have h45 : (at' s 0 == 45) = false := by simpa using hn
          have hneg : isNeg s = false := by simp only [isNeg]; exact decide_eq_false (fun x => hn x.2)
          have hz0 : s.size ≠ 0 := by omega
          cases hd : digB s
          · cases hbb : badB s
            · have hc : cls s = 5 := by simp [cls, h0, h1, h2, hd, hbb, hb]
              simp only [rK, wK, wT, wN, wE, hc]
              simp only [badB, Bool.or_eq_false_iff, hb] at hbb
              obtain ⟨⟨hA, hB⟩, hl⟩ := hbb
              exact Rword_sym_p s s hs hs h0 h1 h2 hz _ rfl h45 rfl hd (by simpa [hz0] using hB) hA hl w
            · have hc : cls s = 4 := by simp [cls, h0, h1, h2, hd, hbb, hb]
              simp only [rK, wK, wT, wN, wE, hc]
              cases hB : isDI (at' s 0)
              · cases hA : (at' s 0 == 35)
                · exact Rword_badC_p s s hs hs h0 h1 h2 hz _ rfl h45 rfl hd hB hA (by simpa [badB, hA, hb, hB] using hbb) w
                · exact Rword_badA_p s s hs hs h0 h1 h2 hz _ rfl h45 rfl hd hB hA w
              · exact Rword_badB_p s s hs hs h0 h1 h2 hz _ rfl h45 rfl hd hB w
          · have hc : cls s = 3 := by simp [cls, h0, h1, h2, hd, hb]
            rcases numE_cases (bare s) (isNeg s) with he | he
            · have hp := refNum_yes _ _ he
              simp only [rK, wK, wT, wN, wE, hc, he]
              rw [hneg, hb] at hp ⊢
              exact Rword_num_p s s hs hs h0 h1 h2 hz _ rfl h45 rfl hd _ hp w
            · obtain ⟨n, hp⟩ := refNum_no (bare s) (isNeg s) (by omega)
              have hv : numV (bare s) (isNeg s) = 0 := by unfold numV; rw [if_neg (by omega)]
              simp only [rK, wK, wT, wN, wE, hc, he, hv]
              rw [hneg, hb] at hp
              exact Rword_big_p s s hs hs h0 h1 h2 hz _ rfl h45 rfl hd n hp w
end Go.Proofs.Ytecoahdeafobkaa
