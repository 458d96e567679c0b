/-
  NARROWER THAN 'FOR EVERY INPUT', by the rows' own cells (each row's printed sentence says how): ReadWrites: loops · ReadBack: loops · ReadTails: loops · FormsRound: loops · FormsPath: loops · FormsWithin: loops · FormsBinds: loops.
  DERIVED. THE GIVEN ROWS OF THIS SEAT. 11 by the template 'for every input the law returns true; each argument reads behind the call as it read before'; 0 by the template 'total and deterministic' (their statements: YtnnjhafjcdjobaaTotals.lean).
  GIVEN WITH THE SEED: the statements are not yours to turn. If you find one false, say at which input.
  Laid BY PROGRAM, IN A SANDBOX (cutbox-rows.mjs): the forced cells as the released guide's own fill.sh prints them over the translation ca7a4dc44c1bac54… (all of the seat's roots in one cut). By AI agents, Wed Nov 11 2026. No macro, syntax, notation, axiom, sorry.
-/
import Derived.Test.YtnnjhafjcdjobaaChecked
import GoSem.Claim
import GoSem.ClaimJoined
import GoSem.ClaimMapViews
import Derived.JoinedTies
import Derived.KernelRfl
namespace Go.Proofs.Ytnnjhafjcdjobaa
/- THE CELL 'sum', in the pinned program and in every row, IS THE sha256 OF THE DUMP (.gsa) THAT YtnnjhafjcdjobaaProg.lean LOADS. Nothing in Lean hashes anything: it is a label: what it is worth is what the hold of that sum in a sandbox is worth. -/
noncomputable def Try.pinned : Pinned := { name := "ytnnjhafjcdjobaa", sum := "ca7a4dc44c1bac54e27e9194dec2293c5124917e7668eaff4792b1b79ce93d5b", checked := Try.checked }
namespace Rows
def none {H : Type} : Left H := { results := [], args := [] }

/-- 'dapplelaw06.ReadNumbers': WHATEVER THE INPUT: true; the input reads as it did. -/
def readNumbersSpec : ChangeSpec := { name := "readNumbers", fn := fun _ => fun
  | [] => { results := [.lit (.bool true)], args := [] }
  | _ => none }
def readNumbersRow : OpenClaim := { program := "ytnnjhafjcdjobaa", sum := "ca7a4dc44c1bac54e27e9194dec2293c5124917e7668eaff4792b1b79ce93d5b", func := "dapple/dapplelaw06.ReadNumbers", spec := "readNumbers", inPlace := ["internal/bytealg.IndexByteString"], unfollowed := true, recurses := true, apart := false }
def ReadNumbersSaid : Prop := readNumbersRow.holds Try.pinned (OpenSpec.ofChange readNumbersSpec)

/-- ITS FALSE NEIGHBOUR: 'it returns false'. Refute it at one input. -/
def readNumbersWrong : ChangeSpec := { name := "readNumbers", fn := fun _ => fun
  | [] => { results := [.lit (.bool false)], args := [] }
  | _ => none }
def ReadNumbersWrongFalsely : Prop := readNumbersRow.holds Try.pinned (OpenSpec.ofChange readNumbersWrong)

/-- 'dapplelaw06.ReadDoes': WHATEVER THE INPUT: true; the input reads as it did. -/
def readDoesSpec : ChangeSpec := { name := "readDoes", fn := fun _ => fun
  | [d] => { results := [.lit (.bool true)], args := [d] }
  | _ => none }
def readDoesRow : OpenClaim := { program := "ytnnjhafjcdjobaa", sum := "ca7a4dc44c1bac54e27e9194dec2293c5124917e7668eaff4792b1b79ce93d5b", func := "dapple/dapplelaw06.ReadDoes", spec := "readDoes", inPlace := ["internal/bytealg.IndexByteString"], unfollowed := true, recurses := true, apart := false }
def ReadDoesSaid : Prop := readDoesRow.holds Try.pinned (OpenSpec.ofChange readDoesSpec)

/-- ITS FALSE NEIGHBOUR: 'it returns false'. Refute it at one input. -/
def readDoesWrong : ChangeSpec := { name := "readDoes", fn := fun _ => fun
  | [d] => { results := [.lit (.bool false)], args := [d] }
  | _ => none }
def ReadDoesWrongFalsely : Prop := readDoesRow.holds Try.pinned (OpenSpec.ofChange readDoesWrong)

/-- 'dapplelaw06.ReadWrites': WHATEVER THE INPUT: true; the input reads as it did. -/
def readWritesSpec : ChangeSpec := { name := "readWrites", fn := fun _ => fun
  | [d] => { results := [.lit (.bool true)], args := [d] }
  | _ => none }
def readWritesRow : OpenClaim := { program := "ytnnjhafjcdjobaa", sum := "ca7a4dc44c1bac54e27e9194dec2293c5124917e7668eaff4792b1b79ce93d5b", func := "dapple/dapplelaw06.ReadWrites", spec := "readWrites", inPlace := ["internal/bytealg.IndexByteString"], unfollowed := true, recurses := true, loops := true, apart := false }
def ReadWritesSaid : Prop := readWritesRow.holds Try.pinned (OpenSpec.ofChange readWritesSpec)

/-- ITS FALSE NEIGHBOUR: 'it returns false'. Refute it at one input. -/
def readWritesWrong : ChangeSpec := { name := "readWrites", fn := fun _ => fun
  | [d] => { results := [.lit (.bool false)], args := [d] }
  | _ => none }
def ReadWritesWrongFalsely : Prop := readWritesRow.holds Try.pinned (OpenSpec.ofChange readWritesWrong)

/-- 'dapplelaw06.ReadBack': WHATEVER THE INPUT: true; the input reads as it did. -/
def readBackSpec : ChangeSpec := { name := "readBack", fn := fun _ => fun
  | [d1, d2] => { results := [.lit (.bool true)], args := [d1, d2] }
  | _ => none }
def readBackRow : OpenClaim := { program := "ytnnjhafjcdjobaa", sum := "ca7a4dc44c1bac54e27e9194dec2293c5124917e7668eaff4792b1b79ce93d5b", func := "dapple/dapplelaw06.ReadBack", spec := "readBack", inPlace := ["internal/bytealg.IndexByteString"], unfollowed := true, recurses := true, loops := true, apart := false }
def ReadBackSaid : Prop := readBackRow.holds Try.pinned (OpenSpec.ofChange readBackSpec)

/-- ITS FALSE NEIGHBOUR: 'it returns false'. Refute it at one input. -/
def readBackWrong : ChangeSpec := { name := "readBack", fn := fun _ => fun
  | [d1, d2] => { results := [.lit (.bool false)], args := [d1, d2] }
  | _ => none }
def ReadBackWrongFalsely : Prop := readBackRow.holds Try.pinned (OpenSpec.ofChange readBackWrong)

/-- 'dapplelaw06.ReadBoth': WHATEVER THE INPUT: true; the input reads as it did. -/
def readBothSpec : ChangeSpec := { name := "readBoth", fn := fun _ => fun
  | [d1, d2, d3] => { results := [.lit (.bool true)], args := [d1, d2, d3] }
  | _ => none }
def readBothRow : OpenClaim := { program := "ytnnjhafjcdjobaa", sum := "ca7a4dc44c1bac54e27e9194dec2293c5124917e7668eaff4792b1b79ce93d5b", func := "dapple/dapplelaw06.ReadBoth", spec := "readBoth", inPlace := ["internal/bytealg.IndexByteString"], unfollowed := true, recurses := true, apart := false }
def ReadBothSaid : Prop := readBothRow.holds Try.pinned (OpenSpec.ofChange readBothSpec)

/-- ITS FALSE NEIGHBOUR: 'it returns false'. Refute it at one input. -/
def readBothWrong : ChangeSpec := { name := "readBoth", fn := fun _ => fun
  | [d1, d2, d3] => { results := [.lit (.bool false)], args := [d1, d2, d3] }
  | _ => none }
def ReadBothWrongFalsely : Prop := readBothRow.holds Try.pinned (OpenSpec.ofChange readBothWrong)

/-- 'dapplelaw06.ReadTails': WHATEVER THE INPUT: true; the input reads as it did. -/
def readTailsSpec : ChangeSpec := { name := "readTails", fn := fun _ => fun
  | [d1, d2] => { results := [.lit (.bool true)], args := [d1, d2] }
  | _ => none }
def readTailsRow : OpenClaim := { program := "ytnnjhafjcdjobaa", sum := "ca7a4dc44c1bac54e27e9194dec2293c5124917e7668eaff4792b1b79ce93d5b", func := "dapple/dapplelaw06.ReadTails", spec := "readTails", inPlace := ["internal/bytealg.IndexByteString"], unfollowed := true, recurses := true, loops := true, apart := false }
def ReadTailsSaid : Prop := readTailsRow.holds Try.pinned (OpenSpec.ofChange readTailsSpec)

/-- ITS FALSE NEIGHBOUR: 'it returns false'. Refute it at one input. -/
def readTailsWrong : ChangeSpec := { name := "readTails", fn := fun _ => fun
  | [d1, d2] => { results := [.lit (.bool false)], args := [d1, d2] }
  | _ => none }
def ReadTailsWrongFalsely : Prop := readTailsRow.holds Try.pinned (OpenSpec.ofChange readTailsWrong)

/-- 'dapplelaw07.FormsNumbers': WHATEVER THE INPUT: true; the input reads as it did. -/
def formsNumbersSpec : ChangeSpec := { name := "formsNumbers", fn := fun _ => fun
  | [] => { results := [.lit (.bool true)], args := [] }
  | _ => none }
def formsNumbersRow : OpenClaim := { program := "ytnnjhafjcdjobaa", sum := "ca7a4dc44c1bac54e27e9194dec2293c5124917e7668eaff4792b1b79ce93d5b", func := "dapple/dapplelaw07.FormsNumbers", spec := "formsNumbers", unfollowed := true, recurses := true, apart := false }
def FormsNumbersSaid : Prop := formsNumbersRow.holds Try.pinned (OpenSpec.ofChange formsNumbersSpec)

/-- ITS FALSE NEIGHBOUR: 'it returns false'. Refute it at one input. -/
def formsNumbersWrong : ChangeSpec := { name := "formsNumbers", fn := fun _ => fun
  | [] => { results := [.lit (.bool false)], args := [] }
  | _ => none }
def FormsNumbersWrongFalsely : Prop := formsNumbersRow.holds Try.pinned (OpenSpec.ofChange formsNumbersWrong)

/-- 'dapplelaw07.FormsRound': WHATEVER THE INPUT: true; the input reads as it did. -/
def formsRoundSpec : ChangeSpec := { name := "formsRound", fn := fun _ => fun
  | [d] => { results := [.lit (.bool true)], args := [d] }
  | _ => none }
def formsRoundRow : OpenClaim := { program := "ytnnjhafjcdjobaa", sum := "ca7a4dc44c1bac54e27e9194dec2293c5124917e7668eaff4792b1b79ce93d5b", func := "dapple/dapplelaw07.FormsRound", spec := "formsRound", unfollowed := true, recurses := true, loops := true, apart := false }
def FormsRoundSaid : Prop := formsRoundRow.holds Try.pinned (OpenSpec.ofChange formsRoundSpec)

/-- ITS FALSE NEIGHBOUR: 'it returns false'. Refute it at one input. -/
def formsRoundWrong : ChangeSpec := { name := "formsRound", fn := fun _ => fun
  | [d] => { results := [.lit (.bool false)], args := [d] }
  | _ => none }
def FormsRoundWrongFalsely : Prop := formsRoundRow.holds Try.pinned (OpenSpec.ofChange formsRoundWrong)

/-- 'dapplelaw07.FormsPath': WHATEVER THE INPUT: true; the input reads as it did. -/
def formsPathSpec : ChangeSpec := { name := "formsPath", fn := fun _ => fun
  | [d] => { results := [.lit (.bool true)], args := [d] }
  | _ => none }
def formsPathRow : OpenClaim := { program := "ytnnjhafjcdjobaa", sum := "ca7a4dc44c1bac54e27e9194dec2293c5124917e7668eaff4792b1b79ce93d5b", func := "dapple/dapplelaw07.FormsPath", spec := "formsPath", unfollowed := true, recurses := true, loops := true, apart := false }
def FormsPathSaid : Prop := formsPathRow.holds Try.pinned (OpenSpec.ofChange formsPathSpec)

/-- ITS FALSE NEIGHBOUR: 'it returns false'. Refute it at one input. -/
def formsPathWrong : ChangeSpec := { name := "formsPath", fn := fun _ => fun
  | [d] => { results := [.lit (.bool false)], args := [d] }
  | _ => none }
def FormsPathWrongFalsely : Prop := formsPathRow.holds Try.pinned (OpenSpec.ofChange formsPathWrong)

/-- 'dapplelaw07.FormsWithin': WHATEVER THE INPUT: true; the input reads as it did. -/
def formsWithinSpec : ChangeSpec := { name := "formsWithin", fn := fun _ => fun
  | [d1, d2] => { results := [.lit (.bool true)], args := [d1, d2] }
  | _ => none }
def formsWithinRow : OpenClaim := { program := "ytnnjhafjcdjobaa", sum := "ca7a4dc44c1bac54e27e9194dec2293c5124917e7668eaff4792b1b79ce93d5b", func := "dapple/dapplelaw07.FormsWithin", spec := "formsWithin", unfollowed := true, recurses := true, loops := true, apart := false }
def FormsWithinSaid : Prop := formsWithinRow.holds Try.pinned (OpenSpec.ofChange formsWithinSpec)

/-- ITS FALSE NEIGHBOUR: 'it returns false'. Refute it at one input. -/
def formsWithinWrong : ChangeSpec := { name := "formsWithin", fn := fun _ => fun
  | [d1, d2] => { results := [.lit (.bool false)], args := [d1, d2] }
  | _ => none }
def FormsWithinWrongFalsely : Prop := formsWithinRow.holds Try.pinned (OpenSpec.ofChange formsWithinWrong)

/-- 'dapplelaw07.FormsBinds': WHATEVER THE INPUT: true; the input reads as it did. -/
def formsBindsSpec : ChangeSpec := { name := "formsBinds", fn := fun _ => fun
  | [d] => { results := [.lit (.bool true)], args := [d] }
  | _ => none }
def formsBindsRow : OpenClaim := { program := "ytnnjhafjcdjobaa", sum := "ca7a4dc44c1bac54e27e9194dec2293c5124917e7668eaff4792b1b79ce93d5b", func := "dapple/dapplelaw07.FormsBinds", spec := "formsBinds", unfollowed := true, recurses := true, loops := true, apart := false }
def FormsBindsSaid : Prop := formsBindsRow.holds Try.pinned (OpenSpec.ofChange formsBindsSpec)

/-- ITS FALSE NEIGHBOUR: 'it returns false'. Refute it at one input. -/
def formsBindsWrong : ChangeSpec := { name := "formsBinds", fn := fun _ => fun
  | [d] => { results := [.lit (.bool false)], args := [d] }
  | _ => none }
def FormsBindsWrongFalsely : Prop := formsBindsRow.holds Try.pinned (OpenSpec.ofChange formsBindsWrong)

/- THE SECOND FORM. 'bulk': how many values and letters a reading holds, each counted each time it is reached (what is shared counts as often as it is met; a slice's spare places count too). A statement '..UptoSaid' is the law's where the arguments, and the package variables that the reading takes, are together of bulk at most 1048576: NARROWER than '..Said'. Prove '..Said' where nothing that the law and all that it calls make is longer than what came in: it says more and counts as full. Else prove '..UptoSaid'. A law counts once. -/
mutual
def uptoBulk {H : Type} : DataW H → Nat
  | .lit (.string bytes) => bytes.length + 1
  | .lit _ => 1
  | .nil => 1
  | .ptr d => uptoBulk d + 1
  | .slice elems spare => uptoBulkAll elems + uptoBulkAll spare + 1
  | .agg parts => uptoBulkAll parts + 1
  | .iface _ d => uptoBulk d + 1
  | .map entries => uptoBulkEntries entries + 1
  | .held _ => 1
def uptoBulkAll {H : Type} : List (DataW H) → Nat
  | [] => 0
  | d :: r => uptoBulk d + uptoBulkAll r
def uptoBulkEntries {H : Type} : List (Lit × DataW H) → Nat
  | [] => 0
  | x :: r => uptoBulkEntry x + uptoBulkEntries r
def uptoBulkEntry {H : Type} : Lit × DataW H → Nat
  | (.string bytes, d) => bytes.length + uptoBulk d + 1
  | (_, d) => uptoBulk d + 1
 end
def uptoSmall : (H : Type) → List (DataW H) → Bool := fun _ ds => decide (uptoBulkAll ds ≤ 1048576)
def OpenSpec.upto (s : _root_.Go.ChangeSpec) : _root_.Go.OpenSpec := { _root_.Go.OpenSpec.ofChange s with cond := some uptoSmall }

/-- 'dapplelaw06.ReadNumbers', WHERE WHAT IT READS IS OF BULK AT MOST 1048576: true; the input reads as it did. -/
def readNumbersUptoRow : OpenClaim := { program := "ytnnjhafjcdjobaa", sum := "ca7a4dc44c1bac54e27e9194dec2293c5124917e7668eaff4792b1b79ce93d5b", func := "dapple/dapplelaw06.ReadNumbers", spec := "readNumbers", inPlace := ["internal/bytealg.IndexByteString"], unfollowed := true, recurses := true, apart := false, narrowed := true }
def ReadNumbersUptoSaid : Prop := readNumbersUptoRow.holds Try.pinned (OpenSpec.upto readNumbersSpec)

/-- 'dapplelaw06.ReadDoes', WHERE WHAT IT READS IS OF BULK AT MOST 1048576: true; the input reads as it did. -/
def readDoesUptoRow : OpenClaim := { program := "ytnnjhafjcdjobaa", sum := "ca7a4dc44c1bac54e27e9194dec2293c5124917e7668eaff4792b1b79ce93d5b", func := "dapple/dapplelaw06.ReadDoes", spec := "readDoes", inPlace := ["internal/bytealg.IndexByteString"], unfollowed := true, recurses := true, apart := false, narrowed := true }
def ReadDoesUptoSaid : Prop := readDoesUptoRow.holds Try.pinned (OpenSpec.upto readDoesSpec)

/-- 'dapplelaw06.ReadWrites', WHERE WHAT IT READS IS OF BULK AT MOST 1048576: true; the input reads as it did. -/
def readWritesUptoRow : OpenClaim := { program := "ytnnjhafjcdjobaa", sum := "ca7a4dc44c1bac54e27e9194dec2293c5124917e7668eaff4792b1b79ce93d5b", func := "dapple/dapplelaw06.ReadWrites", spec := "readWrites", inPlace := ["internal/bytealg.IndexByteString"], unfollowed := true, recurses := true, loops := true, apart := false, narrowed := true }
def ReadWritesUptoSaid : Prop := readWritesUptoRow.holds Try.pinned (OpenSpec.upto readWritesSpec)

/-- 'dapplelaw06.ReadBack', WHERE WHAT IT READS IS OF BULK AT MOST 1048576: true; the input reads as it did. -/
def readBackUptoRow : OpenClaim := { program := "ytnnjhafjcdjobaa", sum := "ca7a4dc44c1bac54e27e9194dec2293c5124917e7668eaff4792b1b79ce93d5b", func := "dapple/dapplelaw06.ReadBack", spec := "readBack", inPlace := ["internal/bytealg.IndexByteString"], unfollowed := true, recurses := true, loops := true, apart := false, narrowed := true }
def ReadBackUptoSaid : Prop := readBackUptoRow.holds Try.pinned (OpenSpec.upto readBackSpec)

/-- 'dapplelaw06.ReadBoth', WHERE WHAT IT READS IS OF BULK AT MOST 1048576: true; the input reads as it did. -/
def readBothUptoRow : OpenClaim := { program := "ytnnjhafjcdjobaa", sum := "ca7a4dc44c1bac54e27e9194dec2293c5124917e7668eaff4792b1b79ce93d5b", func := "dapple/dapplelaw06.ReadBoth", spec := "readBoth", inPlace := ["internal/bytealg.IndexByteString"], unfollowed := true, recurses := true, apart := false, narrowed := true }
def ReadBothUptoSaid : Prop := readBothUptoRow.holds Try.pinned (OpenSpec.upto readBothSpec)

/-- 'dapplelaw06.ReadTails', WHERE WHAT IT READS IS OF BULK AT MOST 1048576: true; the input reads as it did. -/
def readTailsUptoRow : OpenClaim := { program := "ytnnjhafjcdjobaa", sum := "ca7a4dc44c1bac54e27e9194dec2293c5124917e7668eaff4792b1b79ce93d5b", func := "dapple/dapplelaw06.ReadTails", spec := "readTails", inPlace := ["internal/bytealg.IndexByteString"], unfollowed := true, recurses := true, loops := true, apart := false, narrowed := true }
def ReadTailsUptoSaid : Prop := readTailsUptoRow.holds Try.pinned (OpenSpec.upto readTailsSpec)

/-- 'dapplelaw07.FormsNumbers', WHERE WHAT IT READS IS OF BULK AT MOST 1048576: true; the input reads as it did. -/
def formsNumbersUptoRow : OpenClaim := { program := "ytnnjhafjcdjobaa", sum := "ca7a4dc44c1bac54e27e9194dec2293c5124917e7668eaff4792b1b79ce93d5b", func := "dapple/dapplelaw07.FormsNumbers", spec := "formsNumbers", unfollowed := true, recurses := true, apart := false, narrowed := true }
def FormsNumbersUptoSaid : Prop := formsNumbersUptoRow.holds Try.pinned (OpenSpec.upto formsNumbersSpec)

/-- 'dapplelaw07.FormsRound', WHERE WHAT IT READS IS OF BULK AT MOST 1048576: true; the input reads as it did. -/
def formsRoundUptoRow : OpenClaim := { program := "ytnnjhafjcdjobaa", sum := "ca7a4dc44c1bac54e27e9194dec2293c5124917e7668eaff4792b1b79ce93d5b", func := "dapple/dapplelaw07.FormsRound", spec := "formsRound", unfollowed := true, recurses := true, loops := true, apart := false, narrowed := true }
def FormsRoundUptoSaid : Prop := formsRoundUptoRow.holds Try.pinned (OpenSpec.upto formsRoundSpec)

/-- 'dapplelaw07.FormsPath', WHERE WHAT IT READS IS OF BULK AT MOST 1048576: true; the input reads as it did. -/
def formsPathUptoRow : OpenClaim := { program := "ytnnjhafjcdjobaa", sum := "ca7a4dc44c1bac54e27e9194dec2293c5124917e7668eaff4792b1b79ce93d5b", func := "dapple/dapplelaw07.FormsPath", spec := "formsPath", unfollowed := true, recurses := true, loops := true, apart := false, narrowed := true }
def FormsPathUptoSaid : Prop := formsPathUptoRow.holds Try.pinned (OpenSpec.upto formsPathSpec)

/-- 'dapplelaw07.FormsWithin', WHERE WHAT IT READS IS OF BULK AT MOST 1048576: true; the input reads as it did. -/
def formsWithinUptoRow : OpenClaim := { program := "ytnnjhafjcdjobaa", sum := "ca7a4dc44c1bac54e27e9194dec2293c5124917e7668eaff4792b1b79ce93d5b", func := "dapple/dapplelaw07.FormsWithin", spec := "formsWithin", unfollowed := true, recurses := true, loops := true, apart := false, narrowed := true }
def FormsWithinUptoSaid : Prop := formsWithinUptoRow.holds Try.pinned (OpenSpec.upto formsWithinSpec)

/-- 'dapplelaw07.FormsBinds', WHERE WHAT IT READS IS OF BULK AT MOST 1048576: true; the input reads as it did. -/
def formsBindsUptoRow : OpenClaim := { program := "ytnnjhafjcdjobaa", sum := "ca7a4dc44c1bac54e27e9194dec2293c5124917e7668eaff4792b1b79ce93d5b", func := "dapple/dapplelaw07.FormsBinds", spec := "formsBinds", unfollowed := true, recurses := true, loops := true, apart := false, narrowed := true }
def FormsBindsUptoSaid : Prop := formsBindsUptoRow.holds Try.pinned (OpenSpec.upto formsBindsSpec)

end Rows
end Go.Proofs.Ytnnjhafjcdjobaa
