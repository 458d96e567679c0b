/- The reference's ownBools: of no list at all. -/
import Derived.Test.YtecoahdeafobkaaLyA
import Derived.Outline
import Derived.LoopN
namespace Go.Proofs.Ytecoahdeafobkaa
open Go.RowKit
set_option linter.unusedVariables false
set_option linter.unusedSimpArgs false
set_option maxRecDepth 100000 in
theorem own41_nil (w : World) : Calls Try.prog 41 #[.slice none 0 0] w fun e w' => e = .returned (.bool true) ∧ New w w' := by
  have hmk : ∀ w : World, (Instr.makeSlice 58 (.int .i64 0) (.int .i64 0)).run Try.prog w = .ok (.slice (some ⟨w.heap.size, 0, none⟩) 0 0) (w.alloc (.cells #[] 120)) := fun _ => by kernel_rfl
  go_enter Try.func41, Try.ntmps41
  go_wp2_with fail
  refine wp_loop_rounds 1 ?_
  rw [rounds_succ]
  go_wp2_with fail
  go_ret
  exact ⟨rfl, (Upd.refl _ _).alloc _⟩
end Go.Proofs.Ytecoahdeafobkaa
