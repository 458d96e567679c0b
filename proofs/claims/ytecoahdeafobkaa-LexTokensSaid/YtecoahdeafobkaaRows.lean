/-
  No cell of these rows narrows 'for every input' (looked for: loops, veiled, ifaces, maps, wideKeys, modest, calm, conditions, laid).
  DERIVED. THE GIVEN ROWS OF THIS SEAT. 6 by the template 'for every input the law returns true; each argument reads behind the call as it read before'; 0 by the template 'total and deterministic' (their statements: YtecoahdeafobkaaTotals.lean).
  GIVEN WITH THE SEED: the statements are not yours to turn. If you find one false, say at which input.
  Laid BY PROGRAM, IN A SANDBOX (cutbox-rows.mjs): the forced cells as the released guide's own fill.sh prints them over the translation a026bdd6702f51fc… (all of the seat's roots in one cut). By AI agents, Wed Nov 11 2026. No macro, syntax, notation, axiom, sorry.
-/
import Derived.Test.YtecoahdeafobkaaChecked
import GoSem.Claim
import GoSem.ClaimJoined
import GoSem.ClaimMapViews
import Derived.JoinedTies
import Derived.KernelRfl
namespace Go.Proofs.Ytecoahdeafobkaa
/- THE CELL 'sum', in the pinned program and in every row, IS THE sha256 OF THE DUMP (.gsa) THAT YtecoahdeafobkaaProg.lean LOADS. Nothing in Lean hashes anything: it is a label: what it is worth is what the hold of that sum in a sandbox is worth. -/
noncomputable def Try.pinned : Pinned := { name := "ytecoahdeafobkaa", sum := "a026bdd6702f51fcb8eb803a46e991e853db9e0a9d7dcf793ef947cf6f6776ef", checked := Try.checked }
namespace Rows
def none {H : Type} : Left H := { results := [], args := [] }

/-- 'dapplelaw05.LexNumbers': WHATEVER THE INPUT: true; the input reads as it did. -/
def lexNumbersSpec : ChangeSpec := { name := "lexNumbers", fn := fun _ => fun
  | [] => { results := [.lit (.bool true)], args := [] }
  | _ => none }
def lexNumbersRow : OpenClaim := { program := "ytecoahdeafobkaa", sum := "a026bdd6702f51fcb8eb803a46e991e853db9e0a9d7dcf793ef947cf6f6776ef", func := "dapple/dapplelaw05.LexNumbers", spec := "lexNumbers", inPlace := ["internal/bytealg.IndexByteString"], apart := false }
def LexNumbersSaid : Prop := lexNumbersRow.holds Try.pinned (OpenSpec.ofChange lexNumbersSpec)

/-- ITS FALSE NEIGHBOUR: 'it returns false'. Refute it at one input. -/
def lexNumbersWrong : ChangeSpec := { name := "lexNumbers", fn := fun _ => fun
  | [] => { results := [.lit (.bool false)], args := [] }
  | _ => none }
def LexNumbersWrongFalsely : Prop := lexNumbersRow.holds Try.pinned (OpenSpec.ofChange lexNumbersWrong)

/-- 'dapplelaw05.LexSymbols': WHATEVER THE INPUT: true; the input reads as it did. -/
def lexSymbolsSpec : ChangeSpec := { name := "lexSymbols", fn := fun _ => fun
  | [d] => { results := [.lit (.bool true)], args := [d] }
  | _ => none }
def lexSymbolsRow : OpenClaim := { program := "ytecoahdeafobkaa", sum := "a026bdd6702f51fcb8eb803a46e991e853db9e0a9d7dcf793ef947cf6f6776ef", func := "dapple/dapplelaw05.LexSymbols", spec := "lexSymbols", inPlace := ["internal/bytealg.IndexByteString"], apart := false }
def LexSymbolsSaid : Prop := lexSymbolsRow.holds Try.pinned (OpenSpec.ofChange lexSymbolsSpec)

/-- ITS FALSE NEIGHBOUR: 'it returns false'. Refute it at one input. -/
def lexSymbolsWrong : ChangeSpec := { name := "lexSymbols", fn := fun _ => fun
  | [d] => { results := [.lit (.bool false)], args := [d] }
  | _ => none }
def LexSymbolsWrongFalsely : Prop := lexSymbolsRow.holds Try.pinned (OpenSpec.ofChange lexSymbolsWrong)

/-- 'dapplelaw05.LexParts': WHATEVER THE INPUT: true; the input reads as it did. -/
def lexPartsSpec : ChangeSpec := { name := "lexParts", fn := fun _ => fun
  | [d] => { results := [.lit (.bool true)], args := [d] }
  | _ => none }
def lexPartsRow : OpenClaim := { program := "ytecoahdeafobkaa", sum := "a026bdd6702f51fcb8eb803a46e991e853db9e0a9d7dcf793ef947cf6f6776ef", func := "dapple/dapplelaw05.LexParts", spec := "lexParts", inPlace := ["internal/bytealg.IndexByteString"], apart := false }
def LexPartsSaid : Prop := lexPartsRow.holds Try.pinned (OpenSpec.ofChange lexPartsSpec)

/-- ITS FALSE NEIGHBOUR: 'it returns false'. Refute it at one input. -/
def lexPartsWrong : ChangeSpec := { name := "lexParts", fn := fun _ => fun
  | [d] => { results := [.lit (.bool false)], args := [d] }
  | _ => none }
def LexPartsWrongFalsely : Prop := lexPartsRow.holds Try.pinned (OpenSpec.ofChange lexPartsWrong)

/-- 'dapplelaw05.LexSpaced': WHATEVER THE INPUT: true; the input reads as it did. -/
def lexSpacedSpec : ChangeSpec := { name := "lexSpaced", fn := fun _ => fun
  | [d1, d2] => { results := [.lit (.bool true)], args := [d1, d2] }
  | _ => none }
def lexSpacedRow : OpenClaim := { program := "ytecoahdeafobkaa", sum := "a026bdd6702f51fcb8eb803a46e991e853db9e0a9d7dcf793ef947cf6f6776ef", func := "dapple/dapplelaw05.LexSpaced", spec := "lexSpaced", inPlace := ["internal/bytealg.IndexByteString"], apart := false }
def LexSpacedSaid : Prop := lexSpacedRow.holds Try.pinned (OpenSpec.ofChange lexSpacedSpec)

/-- ITS FALSE NEIGHBOUR: 'it returns false'. Refute it at one input. -/
def lexSpacedWrong : ChangeSpec := { name := "lexSpaced", fn := fun _ => fun
  | [d1, d2] => { results := [.lit (.bool false)], args := [d1, d2] }
  | _ => none }
def LexSpacedWrongFalsely : Prop := lexSpacedRow.holds Try.pinned (OpenSpec.ofChange lexSpacedWrong)

/-- 'dapplelaw05.LexJoined': WHATEVER THE INPUT: true; the input reads as it did. -/
def lexJoinedSpec : ChangeSpec := { name := "lexJoined", fn := fun _ => fun
  | [d1, d2] => { results := [.lit (.bool true)], args := [d1, d2] }
  | _ => none }
def lexJoinedRow : OpenClaim := { program := "ytecoahdeafobkaa", sum := "a026bdd6702f51fcb8eb803a46e991e853db9e0a9d7dcf793ef947cf6f6776ef", func := "dapple/dapplelaw05.LexJoined", spec := "lexJoined", inPlace := ["internal/bytealg.IndexByteString"], apart := false }
def LexJoinedSaid : Prop := lexJoinedRow.holds Try.pinned (OpenSpec.ofChange lexJoinedSpec)

/-- ITS FALSE NEIGHBOUR: 'it returns false'. Refute it at one input. -/
def lexJoinedWrong : ChangeSpec := { name := "lexJoined", fn := fun _ => fun
  | [d1, d2] => { results := [.lit (.bool false)], args := [d1, d2] }
  | _ => none }
def LexJoinedWrongFalsely : Prop := lexJoinedRow.holds Try.pinned (OpenSpec.ofChange lexJoinedWrong)

/-- 'dapplelaw05.LexTokens': WHATEVER THE INPUT: true; the input reads as it did. -/
def lexTokensSpec : ChangeSpec := { name := "lexTokens", fn := fun _ => fun
  | [d1, d2] => { results := [.lit (.bool true)], args := [d1, d2] }
  | _ => none }
def lexTokensRow : OpenClaim := { program := "ytecoahdeafobkaa", sum := "a026bdd6702f51fcb8eb803a46e991e853db9e0a9d7dcf793ef947cf6f6776ef", func := "dapple/dapplelaw05.LexTokens", spec := "lexTokens", inPlace := ["internal/bytealg.IndexByteString"], unfollowed := true, recurses := true, apart := false }
def LexTokensSaid : Prop := lexTokensRow.holds Try.pinned (OpenSpec.ofChange lexTokensSpec)

/-- ITS FALSE NEIGHBOUR: 'it returns false'. Refute it at one input. -/
def lexTokensWrong : ChangeSpec := { name := "lexTokens", fn := fun _ => fun
  | [d1, d2] => { results := [.lit (.bool false)], args := [d1, d2] }
  | _ => none }
def LexTokensWrongFalsely : Prop := lexTokensRow.holds Try.pinned (OpenSpec.ofChange lexTokensWrong)

/- THE SECOND FORM. 'bulk': how many values and letters a reading holds, each counted each time it is reached (what is shared counts as often as it is met; a slice's spare places count too). A statement '..UptoSaid' is the law's where the arguments, and the package variables that the reading takes, are together of bulk at most 1048576: NARROWER than '..Said'. Prove '..Said' where nothing that the law and all that it calls make is longer than what came in: it says more and counts as full. Else prove '..UptoSaid'. A law counts once. -/
mutual
def uptoBulk {H : Type} : DataW H → Nat
  | .lit (.string bytes) => bytes.length + 1
  | .lit _ => 1
  | .nil => 1
  | .ptr d => uptoBulk d + 1
  | .slice elems spare => uptoBulkAll elems + uptoBulkAll spare + 1
  | .agg parts => uptoBulkAll parts + 1
  | .iface _ d => uptoBulk d + 1
  | .map entries => uptoBulkEntries entries + 1
  | .held _ => 1
def uptoBulkAll {H : Type} : List (DataW H) → Nat
  | [] => 0
  | d :: r => uptoBulk d + uptoBulkAll r
def uptoBulkEntries {H : Type} : List (Lit × DataW H) → Nat
  | [] => 0
  | x :: r => uptoBulkEntry x + uptoBulkEntries r
def uptoBulkEntry {H : Type} : Lit × DataW H → Nat
  | (.string bytes, d) => bytes.length + uptoBulk d + 1
  | (_, d) => uptoBulk d + 1
 end
def uptoSmall : (H : Type) → List (DataW H) → Bool := fun _ ds => decide (uptoBulkAll ds ≤ 1048576)
def OpenSpec.upto (s : _root_.Go.ChangeSpec) : _root_.Go.OpenSpec := { _root_.Go.OpenSpec.ofChange s with cond := some uptoSmall }

/-- 'dapplelaw05.LexNumbers', WHERE WHAT IT READS IS OF BULK AT MOST 1048576: true; the input reads as it did. -/
def lexNumbersUptoRow : OpenClaim := { program := "ytecoahdeafobkaa", sum := "a026bdd6702f51fcb8eb803a46e991e853db9e0a9d7dcf793ef947cf6f6776ef", func := "dapple/dapplelaw05.LexNumbers", spec := "lexNumbers", inPlace := ["internal/bytealg.IndexByteString"], apart := false, narrowed := true }
def LexNumbersUptoSaid : Prop := lexNumbersUptoRow.holds Try.pinned (OpenSpec.upto lexNumbersSpec)

/-- 'dapplelaw05.LexSymbols', WHERE WHAT IT READS IS OF BULK AT MOST 1048576: true; the input reads as it did. -/
def lexSymbolsUptoRow : OpenClaim := { program := "ytecoahdeafobkaa", sum := "a026bdd6702f51fcb8eb803a46e991e853db9e0a9d7dcf793ef947cf6f6776ef", func := "dapple/dapplelaw05.LexSymbols", spec := "lexSymbols", inPlace := ["internal/bytealg.IndexByteString"], apart := false, narrowed := true }
def LexSymbolsUptoSaid : Prop := lexSymbolsUptoRow.holds Try.pinned (OpenSpec.upto lexSymbolsSpec)

/-- 'dapplelaw05.LexParts', WHERE WHAT IT READS IS OF BULK AT MOST 1048576: true; the input reads as it did. -/
def lexPartsUptoRow : OpenClaim := { program := "ytecoahdeafobkaa", sum := "a026bdd6702f51fcb8eb803a46e991e853db9e0a9d7dcf793ef947cf6f6776ef", func := "dapple/dapplelaw05.LexParts", spec := "lexParts", inPlace := ["internal/bytealg.IndexByteString"], apart := false, narrowed := true }
def LexPartsUptoSaid : Prop := lexPartsUptoRow.holds Try.pinned (OpenSpec.upto lexPartsSpec)

/-- 'dapplelaw05.LexSpaced', WHERE WHAT IT READS IS OF BULK AT MOST 1048576: true; the input reads as it did. -/
def lexSpacedUptoRow : OpenClaim := { program := "ytecoahdeafobkaa", sum := "a026bdd6702f51fcb8eb803a46e991e853db9e0a9d7dcf793ef947cf6f6776ef", func := "dapple/dapplelaw05.LexSpaced", spec := "lexSpaced", inPlace := ["internal/bytealg.IndexByteString"], apart := false, narrowed := true }
def LexSpacedUptoSaid : Prop := lexSpacedUptoRow.holds Try.pinned (OpenSpec.upto lexSpacedSpec)

/-- 'dapplelaw05.LexJoined', WHERE WHAT IT READS IS OF BULK AT MOST 1048576: true; the input reads as it did. -/
def lexJoinedUptoRow : OpenClaim := { program := "ytecoahdeafobkaa", sum := "a026bdd6702f51fcb8eb803a46e991e853db9e0a9d7dcf793ef947cf6f6776ef", func := "dapple/dapplelaw05.LexJoined", spec := "lexJoined", inPlace := ["internal/bytealg.IndexByteString"], apart := false, narrowed := true }
def LexJoinedUptoSaid : Prop := lexJoinedUptoRow.holds Try.pinned (OpenSpec.upto lexJoinedSpec)

/-- 'dapplelaw05.LexTokens', WHERE WHAT IT READS IS OF BULK AT MOST 1048576: true; the input reads as it did. -/
def lexTokensUptoRow : OpenClaim := { program := "ytecoahdeafobkaa", sum := "a026bdd6702f51fcb8eb803a46e991e853db9e0a9d7dcf793ef947cf6f6776ef", func := "dapple/dapplelaw05.LexTokens", spec := "lexTokens", inPlace := ["internal/bytealg.IndexByteString"], unfollowed := true, recurses := true, apart := false, narrowed := true }
def LexTokensUptoSaid : Prop := lexTokensUptoRow.holds Try.pinned (OpenSpec.upto lexTokensSpec)

end Rows
end Go.Proofs.Ytecoahdeafobkaa
