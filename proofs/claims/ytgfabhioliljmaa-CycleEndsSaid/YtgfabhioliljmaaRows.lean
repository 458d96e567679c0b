/-
  No cell of these rows narrows 'for every input' (looked for: loops, veiled, ifaces, maps, wideKeys, modest, calm, conditions, laid).
  DERIVED. THE GIVEN ROWS OF THIS SEAT. 3 by the template 'for every input the law returns true; each argument reads behind the call as it read before'; 0 by the template 'total and deterministic' (their statements: YtgfabhioliljmaaTotals.lean).
  GIVEN WITH THE SEED: the statements are not yours to turn. If you find one false, say at which input.
  Laid BY PROGRAM, IN A SANDBOX (cutbox-rows.mjs): the forced cells as the released guide's own fill.sh prints them over the translation f84455eb661ab880… (all of the seat's roots in one cut). By AI agents, Wed Nov 11 2026. No macro, syntax, notation, axiom, sorry.
-/
import Derived.Test.YtgfabhioliljmaaChecked
import GoSem.Claim
import GoSem.ClaimJoined
import GoSem.ClaimMapViews
import Derived.JoinedTies
import Derived.KernelRfl
namespace Go.Proofs.Ytgfabhioliljmaa
/- THE CELL 'sum', in the pinned program and in every row, IS THE sha256 OF THE DUMP (.gsa) THAT YtgfabhioliljmaaProg.lean LOADS. Nothing in Lean hashes anything: it is a label: what it is worth is what the hold of that sum in a sandbox is worth. -/
noncomputable def Try.pinned : Pinned := { name := "ytgfabhioliljmaa", sum := "f84455eb661ab8808830f6a3b86991ca482b557415bf5e190f1dc6fc9c260020", checked := Try.checked }
namespace Rows
def none {H : Type} : Left H := { results := [], args := [] }

/-- 'dapplelaw17.CycleNumbers': WHATEVER THE INPUT: true; the input reads as it did. -/
def cycleNumbersSpec : ChangeSpec := { name := "cycleNumbers", fn := fun _ => fun
  | [] => { results := [.lit (.bool true)], args := [] }
  | _ => none }
def cycleNumbersRow : OpenClaim := { program := "ytgfabhioliljmaa", sum := "f84455eb661ab8808830f6a3b86991ca482b557415bf5e190f1dc6fc9c260020", func := "dapple/dapplelaw17.CycleNumbers", spec := "cycleNumbers", apart := false }
def CycleNumbersSaid : Prop := cycleNumbersRow.holds Try.pinned (OpenSpec.ofChange cycleNumbersSpec)

/-- ITS FALSE NEIGHBOUR: 'it returns false'. Refute it at one input. -/
def cycleNumbersWrong : ChangeSpec := { name := "cycleNumbers", fn := fun _ => fun
  | [] => { results := [.lit (.bool false)], args := [] }
  | _ => none }
def CycleNumbersWrongFalsely : Prop := cycleNumbersRow.holds Try.pinned (OpenSpec.ofChange cycleNumbersWrong)

/-- 'dapplelaw17.CycleTells': WHATEVER THE INPUT: true; the input reads as it did. -/
def cycleTellsSpec : ChangeSpec := { name := "cycleTells", fn := fun _ => fun
  | [d1, d2, d3, d4] => { results := [.lit (.bool true)], args := [d1, d2, d3, d4] }
  | _ => none }
def cycleTellsRow : OpenClaim := { program := "ytgfabhioliljmaa", sum := "f84455eb661ab8808830f6a3b86991ca482b557415bf5e190f1dc6fc9c260020", func := "dapple/dapplelaw17.CycleTells", spec := "cycleTells", apart := false }
def CycleTellsSaid : Prop := cycleTellsRow.holds Try.pinned (OpenSpec.ofChange cycleTellsSpec)

/-- ITS FALSE NEIGHBOUR: 'it returns false'. Refute it at one input. -/
def cycleTellsWrong : ChangeSpec := { name := "cycleTells", fn := fun _ => fun
  | [d1, d2, d3, d4] => { results := [.lit (.bool false)], args := [d1, d2, d3, d4] }
  | _ => none }
def CycleTellsWrongFalsely : Prop := cycleTellsRow.holds Try.pinned (OpenSpec.ofChange cycleTellsWrong)

/-- 'dapplelaw17.CycleEnds': WHATEVER THE INPUT: true; the input reads as it did. -/
def cycleEndsSpec : ChangeSpec := { name := "cycleEnds", fn := fun _ => fun
  | [d1, d2, d3, d4] => { results := [.lit (.bool true)], args := [d1, d2, d3, d4] }
  | _ => none }
def cycleEndsRow : OpenClaim := { program := "ytgfabhioliljmaa", sum := "f84455eb661ab8808830f6a3b86991ca482b557415bf5e190f1dc6fc9c260020", func := "dapple/dapplelaw17.CycleEnds", spec := "cycleEnds", apart := false }
def CycleEndsSaid : Prop := cycleEndsRow.holds Try.pinned (OpenSpec.ofChange cycleEndsSpec)

/-- ITS FALSE NEIGHBOUR: 'it returns false'. Refute it at one input. -/
def cycleEndsWrong : ChangeSpec := { name := "cycleEnds", fn := fun _ => fun
  | [d1, d2, d3, d4] => { results := [.lit (.bool false)], args := [d1, d2, d3, d4] }
  | _ => none }
def CycleEndsWrongFalsely : Prop := cycleEndsRow.holds Try.pinned (OpenSpec.ofChange cycleEndsWrong)

/- THE SECOND FORM. 'bulk': how many values and letters a reading holds, each counted each time it is reached (what is shared counts as often as it is met; a slice's spare places count too). A statement '..UptoSaid' is the law's where the arguments, and the package variables that the reading takes, are together of bulk at most 1048576: NARROWER than '..Said'. Prove '..Said' where nothing that the law and all that it calls make is longer than what came in: it says more and counts as full. Else prove '..UptoSaid'. A law counts once. -/
mutual
def uptoBulk {H : Type} : DataW H → Nat
  | .lit (.string bytes) => bytes.length + 1
  | .lit _ => 1
  | .nil => 1
  | .ptr d => uptoBulk d + 1
  | .slice elems spare => uptoBulkAll elems + uptoBulkAll spare + 1
  | .agg parts => uptoBulkAll parts + 1
  | .iface _ d => uptoBulk d + 1
  | .map entries => uptoBulkEntries entries + 1
  | .held _ => 1
def uptoBulkAll {H : Type} : List (DataW H) → Nat
  | [] => 0
  | d :: r => uptoBulk d + uptoBulkAll r
def uptoBulkEntries {H : Type} : List (Lit × DataW H) → Nat
  | [] => 0
  | x :: r => uptoBulkEntry x + uptoBulkEntries r
def uptoBulkEntry {H : Type} : Lit × DataW H → Nat
  | (.string bytes, d) => bytes.length + uptoBulk d + 1
  | (_, d) => uptoBulk d + 1
 end
def uptoSmall : (H : Type) → List (DataW H) → Bool := fun _ ds => decide (uptoBulkAll ds ≤ 1048576)
def OpenSpec.upto (s : _root_.Go.ChangeSpec) : _root_.Go.OpenSpec := { _root_.Go.OpenSpec.ofChange s with cond := some uptoSmall }

/-- 'dapplelaw17.CycleNumbers', WHERE WHAT IT READS IS OF BULK AT MOST 1048576: true; the input reads as it did. -/
def cycleNumbersUptoRow : OpenClaim := { program := "ytgfabhioliljmaa", sum := "f84455eb661ab8808830f6a3b86991ca482b557415bf5e190f1dc6fc9c260020", func := "dapple/dapplelaw17.CycleNumbers", spec := "cycleNumbers", apart := false, narrowed := true }
def CycleNumbersUptoSaid : Prop := cycleNumbersUptoRow.holds Try.pinned (OpenSpec.upto cycleNumbersSpec)

/-- 'dapplelaw17.CycleTells', WHERE WHAT IT READS IS OF BULK AT MOST 1048576: true; the input reads as it did. -/
def cycleTellsUptoRow : OpenClaim := { program := "ytgfabhioliljmaa", sum := "f84455eb661ab8808830f6a3b86991ca482b557415bf5e190f1dc6fc9c260020", func := "dapple/dapplelaw17.CycleTells", spec := "cycleTells", apart := false, narrowed := true }
def CycleTellsUptoSaid : Prop := cycleTellsUptoRow.holds Try.pinned (OpenSpec.upto cycleTellsSpec)

/-- 'dapplelaw17.CycleEnds', WHERE WHAT IT READS IS OF BULK AT MOST 1048576: true; the input reads as it did. -/
def cycleEndsUptoRow : OpenClaim := { program := "ytgfabhioliljmaa", sum := "f84455eb661ab8808830f6a3b86991ca482b557415bf5e190f1dc6fc9c260020", func := "dapple/dapplelaw17.CycleEnds", spec := "cycleEnds", apart := false, narrowed := true }
def CycleEndsUptoSaid : Prop := cycleEndsUptoRow.holds Try.pinned (OpenSpec.upto cycleEndsSpec)

end Rows
end Go.Proofs.Ytgfabhioliljmaa
