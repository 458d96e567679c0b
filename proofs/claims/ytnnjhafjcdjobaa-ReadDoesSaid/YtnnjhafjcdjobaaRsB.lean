/- Tokens, of the program and of the reference, as one answer; two lists of tokens held against each other. -/
import Derived.Test.YtnnjhafjcdjobaaRsA
import Derived.Deep.QuietTactic
import Derived.BigQuiet
namespace Go.Proofs.Ytnnjhafjcdjobaa
open Go.RowKit
set_option linter.unusedVariables false
set_option linter.unusedSimpArgs false

/-- What Tokens answers. -/
def tokR (s : ByteArray) : List Tok × Int × Nat :=
  if (65536 : Int) < s.size then ([], 2, 0) else if (toks s 0).2.1 = 0 then ((toks s 0).1, 0, 0) else ([], (toks s 0).2.1, (toks s 0).2.2)
/-- What All goes through. -/
def allR (s : ByteArray) : List Tok := if (65536 : Int) < s.size then [] else (toks s 0).1
def ResPost (R : List Tok × Int × Nat) (w : World) (e : Ending) (w' : World) : Prop :=
  New w w' ∧ ∃ v, e = .returned (.tuple #[v, .int .i64 R.2.1, .int .i64 R.2.2]) ∧ w'.ownsRow w.heap.size 65 4 v R.1.length (tokCells R.1)
def AllPost (R : List Tok) (w : World) (e : Ending) (w' : World) : Prop :=
  New w w' ∧ ∃ v, e = .returned v ∧ w'.ownsRow w.heap.size 65 4 v R.length (tokCells R)
theorem nil_own (w : World) (base : Nat) : w.ownsRow base 65 4 (.slice none 0 0) ([] : List Tok).length (tokCells []) := ⟨rfl, .inl ⟨rfl, rfl⟩⟩
set_option maxHeartbeats 1000000 in
theorem rtokens_res (s : ByteArray) (hs : Small s) (w : World) : Calls Try.prog 50 #[.string s] w (ResPost (tokR s) w) := by
  have hsz := hs.le
  by_cases hm : (65536 : Int) < s.size
  · have hR : tokR s = ([], 2, 0) := by rw [tokR, if_pos hm]
    rw [hR]
    clear hR
    go_enter Try.func50, Try.ntmps50
    go_wp2_with fail
    refine bodyPost_ret (results_tmp3 rfl _ _ _) rfl ⟨Upd.refl _ _, _, rfl, nil_own _ _⟩
  · have hs1 := some_calls s hs w
    by_cases he : (toks s 0).2.1 = 0
    · have hR : tokR s = ((toks s 0).1, 0, 0) := by rw [tokR, if_neg hm, if_pos he]
      rw [hR]
      unfold SomePost at hs1
      rw [he] at hs1
      have HS := Lib.hid hs1
      clear hR hs1 he
      generalize (toks s 0).2.2 = pl at *
      generalize (toks s 0).1 = L at *
      have HM := Lib.hid hm
      have hm2 : ¬ (65536 : Int) < s.size := hm
      clear hm
      go_enter Try.func50, Try.ntmps50
      go_wp2_with fail
      refine HS.out.mono ?_
      rintro e w1 ⟨hn, v, rfl, ho⟩
      have HN := Lib.hid hn
      have HO := Lib.hid ho
      clear hn ho
      go_wp2_with fail
      refine bodyPost_ret (results_tmp3 rfl _ _ _) rfl ⟨HN.out, _, rfl, HO.out⟩
    · have hR : tokR s = ([], (toks s 0).2.1, (toks s 0).2.2) := by rw [tokR, if_neg hm, if_neg he]
      rw [hR]
      have hen : ((toks s 0).2.1 != 0) = true := by rw [bne_iff_ne]; exact he
      unfold SomePost at hs1
      clear hR he
      generalize (toks s 0).2.1 = er at *
      generalize (toks s 0).2.2 = pl at *
      generalize (toks s 0).1 = L at *
      have HS := Lib.hid hs1
      have hm2 : ¬ (65536 : Int) < s.size := hm
      clear hm hs1
      go_enter Try.func50, Try.ntmps50
      go_wp2_with fail
      refine HS.out.mono ?_
      rintro e w1 ⟨hn, v, rfl, ho⟩
      have HN := Lib.hid hn
      clear hn ho
      go_wp2_with fail
      refine bodyPost_ret (results_tmp3 rfl _ _ _) rfl ⟨HN.out, _, rfl, nil_own _ _⟩
end Go.Proofs.Ytnnjhafjcdjobaa
