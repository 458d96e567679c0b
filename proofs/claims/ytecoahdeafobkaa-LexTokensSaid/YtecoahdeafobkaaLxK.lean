/- Lex: the tokens from a place on, in plain Lean. -/
import Derived.Test.YtecoahdeafobkaaLxJ
namespace Go.Proofs.Ytecoahdeafobkaa
open Go.RowKit
set_option linter.unusedVariables false
set_option linter.unusedSimpArgs false

theorem cls_lt (s : ByteArray) : cls s = 0 ∨ cls s = 1 ∨ cls s = 2 ∨ cls s = 3 ∨ cls s = 4 ∨ cls s = 5 := by
  unfold cls; repeat' split
  all_goals simp
/-- A word's token is no end and no bracket. -/
theorem wK_range (s : ByteArray) (h : wE s = 0) : 4 ≤ wK s ∧ wK s ≤ 8 := by
  unfold wE at h; unfold wK
  rcases cls_lt s with e | e | e | e | e | e <;> simp [e] at h ⊢

/-- With no error and no end: the place behind is further on. -/
theorem tokAt_place (s : ByteArray) (b : Nat) (hb : b ≤ s.size) (he : (tokAt s b).2.2 = 0) (hk : (tokAt s b).1.k ≠ 9) : b < (tokAt s b).2.1 ∧ (tokAt s b).2.1 ≤ s.size := by
  unfold tokAt at he hk ⊢
  have hE := fun h => wordEnd_le s _ (b + 1) rfl h
  repeat' split
  all_goals simp_all
  all_goals omega
theorem nextOf_place (s : ByteArray) (a : Nat) (ha : a ≤ s.size) (he : (nextOf s a).2.2 = 0) (hk : (nextOf s a).1.k ≠ 9) : a < (nextOf s a).2.1 ∧ (nextOf s a).2.1 ≤ s.size := by
  have h1 := skipG_ge s _ false a rfl
  have h2 := skipG_le s _ false a rfl ha
  have := tokAt_place s _ h2 he hk
  unfold nextOf
  omega

/-- The tokens from a place on, ahead of the first error; that, and its place. -/
def toks (s : ByteArray) (a : Nat) : List Tok × Int × Nat :=
  if (nextOf s a).2.2 ≠ 0 then ([], (nextOf s a).2.2, (nextOf s a).2.1)
  else if (nextOf s a).1.k = 9 then ([(nextOf s a).1], 0, 0)
  else if h : a < (nextOf s a).2.1 ∧ (nextOf s a).2.1 ≤ s.size then ((nextOf s a).1 :: (toks s (nextOf s a).2.1).1, (toks s (nextOf s a).2.1).2)
  else ([], 0, 0)
termination_by s.size - a
theorem toks_err {s : ByteArray} {a : Nat} (h : (nextOf s a).2.2 ≠ 0) : toks s a = ([], (nextOf s a).2.2, (nextOf s a).2.1) := by rw [toks, if_pos h]
theorem toks_end {s : ByteArray} {a : Nat} (h : (nextOf s a).2.2 = 0) (hk : (nextOf s a).1.k = 9) : toks s a = ([(nextOf s a).1], 0, 0) := by rw [toks, if_neg (by simpa using h), if_pos hk]
theorem toks_more {s : ByteArray} {a : Nat} (ha : a ≤ s.size) (h : (nextOf s a).2.2 = 0) (hk : (nextOf s a).1.k ≠ 9) :
    toks s a = ((nextOf s a).1 :: (toks s (nextOf s a).2.1).1, (toks s (nextOf s a).2.1).2) := by
  rw [toks, if_neg (by simpa using h), if_neg hk, dif_pos (nextOf_place s a ha h hk)]

def Tok.cells (x : Tok) : List Value := [.int .u8 x.k, .string x.t, .int .i64 x.n, .int .i64 x.a]
def tokCells (L : List Tok) : List Value := L.flatMap Tok.cells
theorem tokCells_append (L : List Tok) (x : Tok) : tokCells (L ++ [x]) = tokCells L ++ x.cells := by simp [tokCells]
theorem tokCells_length (L : List Tok) : (tokCells L).length = L.length * 4 := by
  induction L with
  | nil => rfl
  | cons x L ih => simp only [tokCells, List.flatMap_cons, List.length_append, List.length_cons] at ih ⊢; rw [ih]; simp [Tok.cells]; omega
theorem tokCells_one (L : List Tok) : ∀ u ∈ tokCells L, u.oneCell' = true := by
  intro u hu
  simp only [tokCells, List.mem_flatMap] at hu
  obtain ⟨x, _, hx⟩ := hu
  simp only [Tok.cells, List.mem_cons, List.not_mem_nil, or_false] at hx
  rcases hx with rfl | rfl | rfl | rfl <;> rfl
end Go.Proofs.Ytecoahdeafobkaa
