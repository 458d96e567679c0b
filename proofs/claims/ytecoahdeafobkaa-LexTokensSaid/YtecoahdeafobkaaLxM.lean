/- Lex: the chapter's example. -/
import Derived.Test.YtecoahdeafobkaaLxL
import Derived.KernelRfl
namespace Go.Proofs.Ytecoahdeafobkaa
open Go.RowKit
set_option linter.unusedVariables false
set_option linter.unusedSimpArgs false

def exS : ByteArray := ⟨#[40, 97, 32, 39, 98, 32, 46, 32, 45, 55, 41]⟩
def exL : List Tok := [⟨1, ⟨#[]⟩, 0, 0⟩, ⟨6, ⟨#[97]⟩, 0, 1⟩, ⟨3, ⟨#[]⟩, 0, 3⟩, ⟨6, ⟨#[98]⟩, 0, 4⟩, ⟨4, ⟨#[]⟩, 0, 6⟩, ⟨5, ⟨#[]⟩, -7, 8⟩, ⟨2, ⟨#[]⟩, 0, 10⟩, ⟨9, ⟨#[]⟩, 0, 11⟩]
theorem ex_toks : toks exS 0 = (exL, 0, 0) := by kernel_rfl
theorem ex_sym : symB ⟨#[97, 39]⟩ = false := by kernel_rfl
theorem small_ex : Small exS := by unfold Small; decide
theorem small_sym : Small ⟨#[97, 39]⟩ := by unfold Small; decide

theorem exTokens_calls (w : World) : Calls Try.prog 12 #[.string ⟨#[40, 97, 32, 39, 98, 32, 46, 32, 45, 55, 41]⟩] w fun e w' => ∃ g cap, e = .returned (.tuple #[.slice (some ⟨g, 0, none⟩) 8 cap, .int .i64 0, .int .i64 0]) ∧ New w w' ∧ w'.ownsRow w.heap.size 34 4 (.slice (some ⟨g, 0, none⟩) 8 cap) 8 (tokCells exL) := by
  refine (tokens_calls exS small_ex (by decide) w).mono ?_
  rintro e w' ⟨hn, h⟩
  rw [ex_toks] at h
  rcases h with ⟨h, _⟩ | ⟨_, g, cap, he, ho⟩
  · exact absurd rfl h
  · exact ⟨g, cap, he, hn, ho⟩

theorem works_calls (w : World) : Calls Try.prog 9 #[] w fun e w' => e = .returned (.bool true) ∧ New w w' := by
  have ht := Lib.hid exTokens_calls
  have hy := Lib.hid (isSymbol_calls ⟨#[97, 39]⟩ small_sym)
  rw [ex_sym] at hy
  go_enter Try.func9, Try.ntmps9
  go_wp2_with (first
    | (go_at_call 12; refine (ht.out _).mono ?_; rintro e w1 ⟨g, cap, rfl, hu, ho⟩; have HU := Lib.hid hu; have HO := Lib.hid ho; clear hu ho)
    | (go_at_call 10; refine (hy.out _).mono ?_; rintro e w2 ⟨rfl, hu2⟩; have ho2 := own_cells (hu2.ownsRow HO.out (fun _ _ x => x)); have c0 : w2.cell? ⟨g, 5, none⟩ = some (.string ⟨#[97]⟩) := ho2 5 (.string ⟨#[97]⟩) rfl; have c1 : w2.cell? ⟨g, 16, none⟩ = some (.int .u8 4) := ho2 16 (.int .u8 4) rfl; have c2 : w2.cell? ⟨g, 22, none⟩ = some (.int .i64 (-7)) := ho2 22 (.int .i64 (-7)) rfl; have c3 : w2.cell? ⟨g, 23, none⟩ = some (.int .i64 8) := ho2 23 (.int .i64 8) rfl; have c4 : w2.cell? ⟨g, 28, none⟩ = some (.int .u8 9) := ho2 28 (.int .u8 9) rfl; have c5 : w2.cell? ⟨g, 31, none⟩ = some (.int .i64 11) := ho2 31 (.int .i64 11) rfl; clear ho2; have HU2 := Lib.hid hu2; clear hu2))
  go_ret
  exact ⟨rfl, HU.out.trans HU2.out⟩
end Go.Proofs.Ytecoahdeafobkaa
