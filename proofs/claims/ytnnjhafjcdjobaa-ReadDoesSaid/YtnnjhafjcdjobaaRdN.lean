/- Read: what Read answers. -/
import Derived.Test.YtnnjhafjcdjobaaRdM
namespace Go.Proofs.Ytnnjhafjcdjobaa
open Go.RowKit
set_option linter.unusedVariables false
set_option linter.unusedSimpArgs false

theorem toks_endL (s : ByteArray) (h : ¬ tokErr s) : EndL (toks s 0).1 := by
  obtain ⟨L, hL, hk⟩ := toks_last s _ 0 rfl (Nat.zero_le _) (tokErr_not h).2
  refine ⟨?_, ?_, ?_⟩
  · rw [hL]; simp
  · rw [hL]; simp [tokK]
  · intro i hi
    rw [hL] at hi ⊢
    simp only [List.length_append, List.length_singleton] at hi
    have h1 : i < L.length := by omega
    simp only [tokK, List.getElem?_append_left h1, List.getElem?_eq_getElem h1]
    exact hk _ (List.getElem_mem h1)
/-- What Read tells of a text, in plain words. -/
theorem read_ok (s : ByteArray) (hs : Small s) (h : ¬ tokErr s) (w : World) : Calls Try.prog 16 #[.string s] w (ReadPost w (readP (toks s 0).1)) := read_good s hs h (toks_endL s h) w
theorem read_fine (s : ByteArray) (h : ¬ tokErr s) : readP (toks s 0).1 ≠ .out := readP_fine _ (toks_endL s h)
end Go.Proofs.Ytnnjhafjcdjobaa
