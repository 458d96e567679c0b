/-
  No cell of these rows narrows 'for every input' (looked for: loops, veiled, ifaces, maps, wideKeys, modest, calm, conditions, laid).
  DERIVED. THE GIVEN ROWS OF THIS SEAT. 3 by the template 'for every input the law returns true; each argument reads behind the call as it read before'; 0 by the template 'total and deterministic' (their statements: YtfoknglgnbceaaaTotals.lean).
  GIVEN WITH THE SEED: the statements are not yours to turn. If you find one false, say at which input.
  Laid BY PROGRAM, IN A SANDBOX (cutbox-rows.mjs): the forced cells as the released guide's own fill.sh prints them over the translation aec1ff1b179f25dc… (all of the seat's roots in one cut). By AI agents, Wed Nov 11 2026. No macro, syntax, notation, axiom, sorry.
-/
import Derived.Test.YtfoknglgnbceaaaChecked
import GoSem.Claim
import GoSem.ClaimJoined
import GoSem.ClaimMapViews
import Derived.JoinedTies
import Derived.KernelRfl
namespace Go.Proofs.Ytfoknglgnbceaaa
/- THE CELL 'sum', in the pinned program and in every row, IS THE sha256 OF THE DUMP (.gsa) THAT YtfoknglgnbceaaaProg.lean LOADS. Nothing in Lean hashes anything: it is a label: what it is worth is what the hold of that sum in a sandbox is worth. -/
noncomputable def Try.pinned : Pinned := { name := "ytfoknglgnbceaaa", sum := "aec1ff1b179f25dcc140d2a2572066d1877ed2fe0efde70c4b3287b7f4204cde", checked := Try.checked }
namespace Rows
def none {H : Type} : Left H := { results := [], args := [] }

/-- 'dapplelaw14.ShakeNumbers': WHATEVER THE INPUT: true; the input reads as it did. -/
def shakeNumbersSpec : ChangeSpec := { name := "shakeNumbers", fn := fun _ => fun
  | [] => { results := [.lit (.bool true)], args := [] }
  | _ => none }
def shakeNumbersRow : OpenClaim := { program := "ytfoknglgnbceaaa", sum := "aec1ff1b179f25dcc140d2a2572066d1877ed2fe0efde70c4b3287b7f4204cde", func := "dapple/dapplelaw14.ShakeNumbers", spec := "shakeNumbers", apart := false }
def ShakeNumbersSaid : Prop := shakeNumbersRow.holds Try.pinned (OpenSpec.ofChange shakeNumbersSpec)

/-- ITS FALSE NEIGHBOUR: 'it returns false'. Refute it at one input. -/
def shakeNumbersWrong : ChangeSpec := { name := "shakeNumbers", fn := fun _ => fun
  | [] => { results := [.lit (.bool false)], args := [] }
  | _ => none }
def ShakeNumbersWrongFalsely : Prop := shakeNumbersRow.holds Try.pinned (OpenSpec.ofChange shakeNumbersWrong)

/-- 'dapplelaw14.ShakeDoes': WHATEVER THE INPUT: true; the input reads as it did. -/
def shakeDoesSpec : ChangeSpec := { name := "shakeDoes", fn := fun _ => fun
  | [d] => { results := [.lit (.bool true)], args := [d] }
  | _ => none }
def shakeDoesRow : OpenClaim := { program := "ytfoknglgnbceaaa", sum := "aec1ff1b179f25dcc140d2a2572066d1877ed2fe0efde70c4b3287b7f4204cde", func := "dapple/dapplelaw14.ShakeDoes", spec := "shakeDoes", apart := false }
def ShakeDoesSaid : Prop := shakeDoesRow.holds Try.pinned (OpenSpec.ofChange shakeDoesSpec)

/-- ITS FALSE NEIGHBOUR: 'it returns false'. Refute it at one input. -/
def shakeDoesWrong : ChangeSpec := { name := "shakeDoes", fn := fun _ => fun
  | [d] => { results := [.lit (.bool false)], args := [d] }
  | _ => none }
def ShakeDoesWrongFalsely : Prop := shakeDoesRow.holds Try.pinned (OpenSpec.ofChange shakeDoesWrong)

/-- 'dapplelaw14.ShakeEnds': WHATEVER THE INPUT: true; the input reads as it did. -/
def shakeEndsSpec : ChangeSpec := { name := "shakeEnds", fn := fun _ => fun
  | [d1, d2, d3] => { results := [.lit (.bool true)], args := [d1, d2, d3] }
  | _ => none }
def shakeEndsRow : OpenClaim := { program := "ytfoknglgnbceaaa", sum := "aec1ff1b179f25dcc140d2a2572066d1877ed2fe0efde70c4b3287b7f4204cde", func := "dapple/dapplelaw14.ShakeEnds", spec := "shakeEnds", apart := false }
def ShakeEndsSaid : Prop := shakeEndsRow.holds Try.pinned (OpenSpec.ofChange shakeEndsSpec)

/-- ITS FALSE NEIGHBOUR: 'it returns false'. Refute it at one input. -/
def shakeEndsWrong : ChangeSpec := { name := "shakeEnds", fn := fun _ => fun
  | [d1, d2, d3] => { results := [.lit (.bool false)], args := [d1, d2, d3] }
  | _ => none }
def ShakeEndsWrongFalsely : Prop := shakeEndsRow.holds Try.pinned (OpenSpec.ofChange shakeEndsWrong)

/- THE SECOND FORM. 'bulk': how many values and letters a reading holds, each counted each time it is reached (what is shared counts as often as it is met; a slice's spare places count too). A statement '..UptoSaid' is the law's where the arguments, and the package variables that the reading takes, are together of bulk at most 1048576: NARROWER than '..Said'. Prove '..Said' where nothing that the law and all that it calls make is longer than what came in: it says more and counts as full. Else prove '..UptoSaid'. A law counts once. -/
mutual
def uptoBulk {H : Type} : DataW H → Nat
  | .lit (.string bytes) => bytes.length + 1
  | .lit _ => 1
  | .nil => 1
  | .ptr d => uptoBulk d + 1
  | .slice elems spare => uptoBulkAll elems + uptoBulkAll spare + 1
  | .agg parts => uptoBulkAll parts + 1
  | .iface _ d => uptoBulk d + 1
  | .map entries => uptoBulkEntries entries + 1
  | .held _ => 1
def uptoBulkAll {H : Type} : List (DataW H) → Nat
  | [] => 0
  | d :: r => uptoBulk d + uptoBulkAll r
def uptoBulkEntries {H : Type} : List (Lit × DataW H) → Nat
  | [] => 0
  | x :: r => uptoBulkEntry x + uptoBulkEntries r
def uptoBulkEntry {H : Type} : Lit × DataW H → Nat
  | (.string bytes, d) => bytes.length + uptoBulk d + 1
  | (_, d) => uptoBulk d + 1
 end
def uptoSmall : (H : Type) → List (DataW H) → Bool := fun _ ds => decide (uptoBulkAll ds ≤ 1048576)
def OpenSpec.upto (s : _root_.Go.ChangeSpec) : _root_.Go.OpenSpec := { _root_.Go.OpenSpec.ofChange s with cond := some uptoSmall }

/-- 'dapplelaw14.ShakeNumbers', WHERE WHAT IT READS IS OF BULK AT MOST 1048576: true; the input reads as it did. -/
def shakeNumbersUptoRow : OpenClaim := { program := "ytfoknglgnbceaaa", sum := "aec1ff1b179f25dcc140d2a2572066d1877ed2fe0efde70c4b3287b7f4204cde", func := "dapple/dapplelaw14.ShakeNumbers", spec := "shakeNumbers", apart := false, narrowed := true }
def ShakeNumbersUptoSaid : Prop := shakeNumbersUptoRow.holds Try.pinned (OpenSpec.upto shakeNumbersSpec)

/-- 'dapplelaw14.ShakeDoes', WHERE WHAT IT READS IS OF BULK AT MOST 1048576: true; the input reads as it did. -/
def shakeDoesUptoRow : OpenClaim := { program := "ytfoknglgnbceaaa", sum := "aec1ff1b179f25dcc140d2a2572066d1877ed2fe0efde70c4b3287b7f4204cde", func := "dapple/dapplelaw14.ShakeDoes", spec := "shakeDoes", apart := false, narrowed := true }
def ShakeDoesUptoSaid : Prop := shakeDoesUptoRow.holds Try.pinned (OpenSpec.upto shakeDoesSpec)

/-- 'dapplelaw14.ShakeEnds', WHERE WHAT IT READS IS OF BULK AT MOST 1048576: true; the input reads as it did. -/
def shakeEndsUptoRow : OpenClaim := { program := "ytfoknglgnbceaaa", sum := "aec1ff1b179f25dcc140d2a2572066d1877ed2fe0efde70c4b3287b7f4204cde", func := "dapple/dapplelaw14.ShakeEnds", spec := "shakeEnds", apart := false, narrowed := true }
def ShakeEndsUptoSaid : Prop := shakeEndsUptoRow.holds Try.pinned (OpenSpec.upto shakeEndsSpec)

end Rows
end Go.Proofs.Ytfoknglgnbceaaa
