/- Lex: bytes: what may stand in a word, digits, blanks: of the program and of the reference. -/
import Derived.Test.YtecoahdeafobkaaRows
import Derived.KernelRfl
import Derived.Deep.QuietTactic
import Derived.BigQuiet
import Derived.LoopTactic
import Derived.ProofKit
namespace Go.Proofs.Ytecoahdeafobkaa
open Go.RowKit
set_option linter.unusedVariables false

def isWI (c : Int) : Bool := decide (33 ≤ c ∧ c ≤ 126 ∧ c ≠ 40 ∧ c ≠ 41 ∧ c ≠ 39 ∧ c ≠ 59 ∧ c ≠ 34)
def isDI (c : Int) : Bool := decide (48 ≤ c ∧ c ≤ 57)
def isBI (c : Int) : Bool := decide (c = 32 ∨ c = 9 ∨ c = 10 ∨ c = 13)

theorem isWord_calls (c : Int) (w : World) : Calls Try.prog 22 #[.int .u8 c] w fun e w' => e = .returned (.bool (isWI c)) ∧ w = w' := by
  go_enter Try.func22, Try.ntmps22
  go_wp2
  all_goals
    go_ret
    refine ⟨?_, rfl⟩
    show Ending.returned (Value.bool _) = Ending.returned (Value.bool _)
    refine congrArg (fun x => Ending.returned (Value.bool x)) ?_
    rw [Bool.eq_iff_iff]
    simp [isWI]
    try omega

theorem isDigit_calls (c : Int) (w : World) : Calls Try.prog 49 #[.int .u8 c] w fun e w' => e = .returned (.bool (isDI c)) ∧ w = w' := by
  go_enter Try.func49, Try.ntmps49
  go_wp2
  all_goals
    go_ret
    refine ⟨?_, rfl⟩
    show Ending.returned (Value.bool _) = Ending.returned (Value.bool _)
    refine congrArg (fun x => Ending.returned (Value.bool x)) ?_
    rw [Bool.eq_iff_iff]
    simp [isDI]
    try omega

theorem plain_calls (c : Int) (w : World) : Calls Try.prog 24 #[.int .u8 c] w fun e w' => e = .returned (.bool (isWI c)) ∧ w = w' := by
  go_enter Try.func24, Try.ntmps24
  go_wp2
  all_goals
    go_ret
    refine ⟨?_, rfl⟩
    show Ending.returned (Value.bool _) = Ending.returned (Value.bool _)
    refine congrArg (fun x => Ending.returned (Value.bool x)) ?_
    rw [Bool.eq_iff_iff]
    simp [isWI]
    try omega

theorem digit_calls (c : Int) (w : World) : Calls Try.prog 51 #[.int .u8 c] w fun e w' => e = .returned (.bool (isDI c)) ∧ w = w' := by
  go_enter Try.func51, Try.ntmps51
  go_wp2
  all_goals
    go_ret
    refine ⟨?_, rfl⟩
    show Ending.returned (Value.bool _) = Ending.returned (Value.bool _)
    refine congrArg (fun x => Ending.returned (Value.bool x)) ?_
    rw [Bool.eq_iff_iff]
    simp [isDI]
    try omega

theorem blank_calls (c : Int) (w : World) : Calls Try.prog 54 #[.int .u8 c] w fun e w' => e = .returned (.bool (isBI c)) ∧ w = w' := by
  go_enter Try.func54, Try.ntmps54
  go_wp2
  all_goals
    go_ret
    refine ⟨?_, rfl⟩
    show Ending.returned (Value.bool _) = Ending.returned (Value.bool _)
    refine congrArg (fun x => Ending.returned (Value.bool x)) ?_
    rw [Bool.eq_iff_iff]
    simp [isBI]
    try omega

end Go.Proofs.Ytecoahdeafobkaa
