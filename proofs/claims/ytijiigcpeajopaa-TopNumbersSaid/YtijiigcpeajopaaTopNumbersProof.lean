/- TopNumbers: errors, limits and the names of all lists have the numbers that the documents give, whatever lies in memory. Conditions: none. -/
import Derived.Test.YtijiigcpeajopaaRows
import Derived.Test.YtijiigcpeajopaaFx
import Derived.KernelRfl
import Derived.Deep.QuietTactic
import Derived.BigQuiet
import Derived.LoopTactic
import Derived.ProofKit
import Derived.OpenShut
import Derived.ShutString
import Derived.ChangeOld
namespace Go.Proofs.Ytijiigcpeajopaa.topNumbers
open Go.ChangeShapes Go.WideShapes Go.ChangeAt Go.RowKit
set_option linter.unusedVariables false

abbrev New (w w' : World) : Prop := Upd (fun _ => False) w w'

theorem numbered_calls (xs : List Int) (n : Nat) (hn : xs.length = n) (hs : n ≤ 100) (a b : Nat) (w : World) (ha : ∀ i, i < n → w.cell? ⟨a, i, none⟩ = some (.int .i64 (xs.getD i 0))) (hb : ∀ i, i < n → w.cell? ⟨b, i, none⟩ = some (.int .i64 (xs.getD i 0))) :
    Calls Try.prog 13 #[.slice (some ⟨a, 0, none⟩) n n, .slice (some ⟨b, 0, none⟩) n n] w fun e w' => e = .returned (.bool true) ∧ ∃ k, w' = w.drewN k := by
  have Ha := Lib.hid ha
  have Hb := Lib.hid hb
  clear ha hb hn
  go_enter Try.func13, Try.ntmps13
  go_wp2
  go_loopw [5] (fun i wr => ∃ k : Nat, k ≤ n ∧ i = .int .i64 k ∧ ∃ q, wr = w.drewN q) (fun i _ => n - (intOf i).toNat)
  case atStart => exact ⟨0, Nat.zero_le _, rfl, 0, rfl⟩
  case round =>
    obtain ⟨k, hk, rfl, q, rfl⟩ := hrel
    by_cases hlt : k < n
    · have h1 := Ha.out k hlt
      have h2 := Hb.out k hlt
      obtain ⟨x, hx⟩ : ∃ x, xs.getD k 0 = x := ⟨_, rfl⟩
      rw [hx] at h1 h2
      clear hx
      have i0 : (0 : Int) ≤ k := by omega
      have i1 : (k : Int) < n := by omega
      go_wp2
      go_quiet (fail)
      go_wp2
      go_roundw
      case rel => exact ⟨k + 1, by omega, by go_num, _, rfl⟩
      case measure => simp [intOf]; omega
    · have hkn : k = n := by omega
      subst hkn
      go_wp2
      go_ret
      exact ⟨rfl, _, rfl⟩

theorem low_cells (W : World) (b : Nat) (t : TypeId) (h : W.heap[b]? = some (.cells #[.int .i64 0, .int .i64 1, .int .i64 2, .int .i64 10, .int .i64 11, .int .i64 12, .int .i64 20, .int .i64 30, .int .i64 31, .int .i64 40, .int .i64 41, .int .i64 50, .int .i64 51, .int .i64 52, .int .i64 60, .int .i64 61, .int .i64 62, .int .i64 70, .int .i64 71, .int .i64 72, .int .i64 80, .int .i64 81, .int .i64 90, .int .i64 91] t (0, 0))) : ∀ i, i < 24 → W.cell? ⟨b, i, none⟩ = some (.int .i64 (([0, 1, 2, 10, 11, 12, 20, 30, 31, 40, 41, 50, 51, 52, 60, 61, 62, 70, 71, 72, 80, 81, 90, 91] : List Int).getD i 0)) := by
  intro i hi
  rw [cell_of_row W b i _ t (0, 0) h]
  rcases (by omega : i = 0 ∨ i = 1 ∨ i = 2 ∨ i = 3 ∨ i = 4 ∨ i = 5 ∨ i = 6 ∨ i = 7 ∨ i = 8 ∨ i = 9 ∨ i = 10 ∨ i = 11 ∨ i = 12 ∨ i = 13 ∨ i = 14 ∨ i = 15 ∨ i = 16 ∨ i = 17 ∨ i = 18 ∨ i = 19 ∨ i = 20 ∨ i = 21 ∨ i = 22 ∨ i = 23) with rfl | rfl | rfl | rfl | rfl | rfl | rfl | rfl | rfl | rfl | rfl | rfl | rfl | rfl | rfl | rfl | rfl | rfl | rfl | rfl | rfl | rfl | rfl | rfl <;> rfl
set_option maxRecDepth 100000 in
theorem low_calls (w : World) : Calls Try.prog 4 #[] w fun e w' => e = .returned (.bool true) ∧ New w w' := by
  have h1 := low_cells ((w.alloc (.cells #[.int .i64 0, .int .i64 1, .int .i64 2, .int .i64 10, .int .i64 11, .int .i64 12, .int .i64 20, .int .i64 30, .int .i64 31, .int .i64 40, .int .i64 41, .int .i64 50, .int .i64 51, .int .i64 52, .int .i64 60, .int .i64 61, .int .i64 62, .int .i64 70, .int .i64 71, .int .i64 72, .int .i64 80, .int .i64 81, .int .i64 90, .int .i64 91] 23)).alloc (.cells #[.int .i64 0, .int .i64 1, .int .i64 2, .int .i64 10, .int .i64 11, .int .i64 12, .int .i64 20, .int .i64 30, .int .i64 31, .int .i64 40, .int .i64 41, .int .i64 50, .int .i64 51, .int .i64 52, .int .i64 60, .int .i64 61, .int .i64 62, .int .i64 70, .int .i64 71, .int .i64 72, .int .i64 80, .int .i64 81, .int .i64 90, .int .i64 91] 3)) w.heap.size 23 ((Below.heap_alloc _ _ _ (by simp)).trans (heap_alloc_new w _))
  have h2 := low_cells ((w.alloc (.cells #[.int .i64 0, .int .i64 1, .int .i64 2, .int .i64 10, .int .i64 11, .int .i64 12, .int .i64 20, .int .i64 30, .int .i64 31, .int .i64 40, .int .i64 41, .int .i64 50, .int .i64 51, .int .i64 52, .int .i64 60, .int .i64 61, .int .i64 62, .int .i64 70, .int .i64 71, .int .i64 72, .int .i64 80, .int .i64 81, .int .i64 90, .int .i64 91] 23)).alloc (.cells #[.int .i64 0, .int .i64 1, .int .i64 2, .int .i64 10, .int .i64 11, .int .i64 12, .int .i64 20, .int .i64 30, .int .i64 31, .int .i64 40, .int .i64 41, .int .i64 50, .int .i64 51, .int .i64 52, .int .i64 60, .int .i64 61, .int .i64 62, .int .i64 70, .int .i64 71, .int .i64 72, .int .i64 80, .int .i64 81, .int .i64 90, .int .i64 91] 3)) (w.heap.size + 1) 3 (by have := heap_alloc_new (w.alloc (.cells #[.int .i64 0, .int .i64 1, .int .i64 2, .int .i64 10, .int .i64 11, .int .i64 12, .int .i64 20, .int .i64 30, .int .i64 31, .int .i64 40, .int .i64 41, .int .i64 50, .int .i64 51, .int .i64 52, .int .i64 60, .int .i64 61, .int .i64 62, .int .i64 70, .int .i64 71, .int .i64 72, .int .i64 80, .int .i64 81, .int .i64 90, .int .i64 91] 23)) (.cells #[.int .i64 0, .int .i64 1, .int .i64 2, .int .i64 10, .int .i64 11, .int .i64 12, .int .i64 20, .int .i64 30, .int .i64 31, .int .i64 40, .int .i64 41, .int .i64 50, .int .i64 51, .int .i64 52, .int .i64 60, .int .i64 61, .int .i64 62, .int .i64 70, .int .i64 71, .int .i64 72, .int .i64 80, .int .i64 81, .int .i64 90, .int .i64 91] 3); simpa using this)
  have hc := numbered_calls [0, 1, 2, 10, 11, 12, 20, 30, 31, 40, 41, 50, 51, 52, 60, 61, 62, 70, 71, 72, 80, 81, 90, 91] 24 rfl (by decide) w.heap.size (w.heap.size + 1) _ h1 h2
  have Hc := Lib.hid hc
  clear h1 h2 hc
  go_enter Try.func4, Try.ntmps4
  go_wp2_with (go_at_call 13; refine Hc.out.mono ?_; rintro e w' ⟨rfl, k, rfl⟩)
  go_ret
  exact ⟨rfl, (((Upd.refl _ w).alloc _).alloc _).drewN _⟩

theorem high_cells (W : World) (b : Nat) (t : TypeId) (h : W.heap[b]? = some (.cells #[.int .i64 100, .int .i64 110, .int .i64 120, .int .i64 121, .int .i64 130, .int .i64 140, .int .i64 160, .int .i64 170, .int .i64 171, .int .i64 180, .int .i64 181, .int .i64 182, .int .i64 183, .int .i64 184, .int .i64 185, .int .i64 190, .int .i64 191, .int .i64 192, .int .i64 193, .int .i64 194, .int .i64 201, .int .i64 202, .int .i64 210, .int .i64 220, .int .i64 230, .int .i64 240, .int .i64 241, .int .i64 242, .int .i64 250, .int .i64 251, .int .i64 252, .int .i64 260, .int .i64 261] t (0, 0))) : ∀ i, i < 33 → W.cell? ⟨b, i, none⟩ = some (.int .i64 (([100, 110, 120, 121, 130, 140, 160, 170, 171, 180, 181, 182, 183, 184, 185, 190, 191, 192, 193, 194, 201, 202, 210, 220, 230, 240, 241, 242, 250, 251, 252, 260, 261] : List Int).getD i 0)) := by
  intro i hi
  rw [cell_of_row W b i _ t (0, 0) h]
  rcases (by omega : i = 0 ∨ i = 1 ∨ i = 2 ∨ i = 3 ∨ i = 4 ∨ i = 5 ∨ i = 6 ∨ i = 7 ∨ i = 8 ∨ i = 9 ∨ i = 10 ∨ i = 11 ∨ i = 12 ∨ i = 13 ∨ i = 14 ∨ i = 15 ∨ i = 16 ∨ i = 17 ∨ i = 18 ∨ i = 19 ∨ i = 20 ∨ i = 21 ∨ i = 22 ∨ i = 23 ∨ i = 24 ∨ i = 25 ∨ i = 26 ∨ i = 27 ∨ i = 28 ∨ i = 29 ∨ i = 30 ∨ i = 31 ∨ i = 32) with rfl | rfl | rfl | rfl | rfl | rfl | rfl | rfl | rfl | rfl | rfl | rfl | rfl | rfl | rfl | rfl | rfl | rfl | rfl | rfl | rfl | rfl | rfl | rfl | rfl | rfl | rfl | rfl | rfl | rfl | rfl | rfl | rfl <;> rfl
set_option maxRecDepth 100000 in
theorem high_calls (w : World) : Calls Try.prog 5 #[] w fun e w' => e = .returned (.bool true) ∧ New w w' := by
  have h1 := high_cells ((w.alloc (.cells #[.int .i64 100, .int .i64 110, .int .i64 120, .int .i64 121, .int .i64 130, .int .i64 140, .int .i64 160, .int .i64 170, .int .i64 171, .int .i64 180, .int .i64 181, .int .i64 182, .int .i64 183, .int .i64 184, .int .i64 185, .int .i64 190, .int .i64 191, .int .i64 192, .int .i64 193, .int .i64 194, .int .i64 201, .int .i64 202, .int .i64 210, .int .i64 220, .int .i64 230, .int .i64 240, .int .i64 241, .int .i64 242, .int .i64 250, .int .i64 251, .int .i64 252, .int .i64 260, .int .i64 261] 23)).alloc (.cells #[.int .i64 100, .int .i64 110, .int .i64 120, .int .i64 121, .int .i64 130, .int .i64 140, .int .i64 160, .int .i64 170, .int .i64 171, .int .i64 180, .int .i64 181, .int .i64 182, .int .i64 183, .int .i64 184, .int .i64 185, .int .i64 190, .int .i64 191, .int .i64 192, .int .i64 193, .int .i64 194, .int .i64 201, .int .i64 202, .int .i64 210, .int .i64 220, .int .i64 230, .int .i64 240, .int .i64 241, .int .i64 242, .int .i64 250, .int .i64 251, .int .i64 252, .int .i64 260, .int .i64 261] 3)) w.heap.size 23 ((Below.heap_alloc _ _ _ (by simp)).trans (heap_alloc_new w _))
  have h2 := high_cells ((w.alloc (.cells #[.int .i64 100, .int .i64 110, .int .i64 120, .int .i64 121, .int .i64 130, .int .i64 140, .int .i64 160, .int .i64 170, .int .i64 171, .int .i64 180, .int .i64 181, .int .i64 182, .int .i64 183, .int .i64 184, .int .i64 185, .int .i64 190, .int .i64 191, .int .i64 192, .int .i64 193, .int .i64 194, .int .i64 201, .int .i64 202, .int .i64 210, .int .i64 220, .int .i64 230, .int .i64 240, .int .i64 241, .int .i64 242, .int .i64 250, .int .i64 251, .int .i64 252, .int .i64 260, .int .i64 261] 23)).alloc (.cells #[.int .i64 100, .int .i64 110, .int .i64 120, .int .i64 121, .int .i64 130, .int .i64 140, .int .i64 160, .int .i64 170, .int .i64 171, .int .i64 180, .int .i64 181, .int .i64 182, .int .i64 183, .int .i64 184, .int .i64 185, .int .i64 190, .int .i64 191, .int .i64 192, .int .i64 193, .int .i64 194, .int .i64 201, .int .i64 202, .int .i64 210, .int .i64 220, .int .i64 230, .int .i64 240, .int .i64 241, .int .i64 242, .int .i64 250, .int .i64 251, .int .i64 252, .int .i64 260, .int .i64 261] 3)) (w.heap.size + 1) 3 (by have := heap_alloc_new (w.alloc (.cells #[.int .i64 100, .int .i64 110, .int .i64 120, .int .i64 121, .int .i64 130, .int .i64 140, .int .i64 160, .int .i64 170, .int .i64 171, .int .i64 180, .int .i64 181, .int .i64 182, .int .i64 183, .int .i64 184, .int .i64 185, .int .i64 190, .int .i64 191, .int .i64 192, .int .i64 193, .int .i64 194, .int .i64 201, .int .i64 202, .int .i64 210, .int .i64 220, .int .i64 230, .int .i64 240, .int .i64 241, .int .i64 242, .int .i64 250, .int .i64 251, .int .i64 252, .int .i64 260, .int .i64 261] 23)) (.cells #[.int .i64 100, .int .i64 110, .int .i64 120, .int .i64 121, .int .i64 130, .int .i64 140, .int .i64 160, .int .i64 170, .int .i64 171, .int .i64 180, .int .i64 181, .int .i64 182, .int .i64 183, .int .i64 184, .int .i64 185, .int .i64 190, .int .i64 191, .int .i64 192, .int .i64 193, .int .i64 194, .int .i64 201, .int .i64 202, .int .i64 210, .int .i64 220, .int .i64 230, .int .i64 240, .int .i64 241, .int .i64 242, .int .i64 250, .int .i64 251, .int .i64 252, .int .i64 260, .int .i64 261] 3); simpa using this)
  have hc := numbered_calls [100, 110, 120, 121, 130, 140, 160, 170, 171, 180, 181, 182, 183, 184, 185, 190, 191, 192, 193, 194, 201, 202, 210, 220, 230, 240, 241, 242, 250, 251, 252, 260, 261] 33 rfl (by decide) w.heap.size (w.heap.size + 1) _ h1 h2
  have Hc := Lib.hid hc
  clear h1 h2 hc
  go_enter Try.func5, Try.ntmps5
  go_wp2_with (go_at_call 13; refine Hc.out.mono ?_; rintro e w' ⟨rfl, k, rfl⟩)
  go_ret
  exact ⟨rfl, (((Upd.refl _ w).alloc _).alloc _).drewN _⟩

theorem maxima_calls (w : World) : Calls Try.prog 6 #[] w fun e w' => e = .returned (.bool true) ∧ w = w' := by
  go_enter Try.func6, Try.ntmps6
  go_wp2
  go_ret
  exact ⟨rfl, rfl⟩

theorem lists0_calls (w : World) : Calls Try.prog 7 #[] w fun e w' => e = .returned (.bool true) ∧ w = w' := by
  go_enter Try.func7, Try.ntmps7
  go_wp2
  go_ret
  exact ⟨rfl, rfl⟩

theorem lists1_calls (w : World) : Calls Try.prog 8 #[] w fun e w' => e = .returned (.bool true) ∧ w = w' := by
  go_enter Try.func8, Try.ntmps8
  go_wp2
  go_ret
  exact ⟨rfl, rfl⟩

theorem lists2_calls (w : World) : Calls Try.prog 9 #[] w fun e w' => e = .returned (.bool true) ∧ w = w' := by
  go_enter Try.func9, Try.ntmps9
  go_wp2
  go_ret
  exact ⟨rfl, rfl⟩

theorem lists3_calls (w : World) : Calls Try.prog 10 #[] w fun e w' => e = .returned (.bool true) ∧ w = w' := by
  go_enter Try.func10, Try.ntmps10
  go_wp2
  go_ret
  exact ⟨rfl, rfl⟩

theorem lists4_calls (w : World) : Calls Try.prog 11 #[] w fun e w' => e = .returned (.bool true) ∧ w = w' := by
  go_enter Try.func11, Try.ntmps11
  go_wp2
  go_ret
  exact ⟨rfl, rfl⟩

theorem lists5_calls (w : World) : Calls Try.prog 12 #[] w fun e w' => e = .returned (.bool true) ∧ w = w' := by
  go_enter Try.func12, Try.ntmps12
  go_wp2
  go_ret
  exact ⟨rfl, rfl⟩

theorem walk (w : World) : Calls Try.prog 3 #[] w fun e w' => e = .returned (.bool true) ∧ Below w.heap.size w w' := by
  go_enter Try.func3, Try.ntmps3
  go_wp2_with (first | (go_at_call 4; refine (low_calls _).mono ?_; rintro e w1 ⟨rfl, hu⟩) | (go_at_call 5; refine (high_calls _).mono ?_; rintro e w2 ⟨rfl, hu2⟩) | (go_at_call 6; refine (maxima_calls _).mono ?_; rintro e w' ⟨rfl, rfl⟩) | (go_at_call 7; refine (lists0_calls _).mono ?_; rintro e w' ⟨rfl, rfl⟩) | (go_at_call 8; refine (lists1_calls _).mono ?_; rintro e w' ⟨rfl, rfl⟩) | (go_at_call 9; refine (lists2_calls _).mono ?_; rintro e w' ⟨rfl, rfl⟩) | (go_at_call 10; refine (lists3_calls _).mono ?_; rintro e w' ⟨rfl, rfl⟩) | (go_at_call 11; refine (lists4_calls _).mono ?_; rintro e w' ⟨rfl, rfl⟩) | (go_at_call 12; refine (lists5_calls _).mono ?_; rintro e w' ⟨rfl, rfl⟩))
  go_ret
  exact ⟨rfl, (hu.trans hu2).to_below' (fun _ x => x.elim)⟩

theorem own : ownKnob Try.prog.godebug = none := by kernel_rfl
theorem laidOut : laidOutB Try.prog = true := by kernel_rfl
set_option maxRecDepth 100000 in
theorem lifted (os : Os) (started : os.Started) (H : Type) (enc : TypeId × Value → H) :
    ReturnsInHanded {} Try.checked os 3 .any (Rows.topNumbersSpec.pre6 enc Try.prog Try.f3 Rows.topNumbersRow.domain false) (Rows.topNumbersSpec.post enc Try.prog Try.f3 false true false false) := by
  refine returnsInHanded_of_change (C := Try.checked) own started (by kernel_rfl) Try.func3
    (ChangeSpec.witness6 (enc := enc) (C := Try.checked) false ⟨#[], #[], []⟩ 8 (by kernel_rfl) (by kernel_rfl) (by kernel_rfl) (by kernel_rfl)) ?_
  intro W base args ds gs before hval0 hW hcnd hsz
  have hval : ∀ (j : Nat) t v, Try.f3.params[j]? = some t → args[j]? = some v → Value.okWide Try.prog W .any base t v := hval0
  have hW' := hW
  obtain ⟨p, q, hA0, hV, rfl, hfz, hnd⟩ := hW
  have hA : DataW.TrodAll enc Try.prog W 0 (fun _ => true) true Try.f3.params.toList args.toList ds p := hA0
  rw [Try.params3] at hA hval
  obtain ⟨rfl, rfl, rfl⟩ := trodAll_none hA
  obtain ⟨rfl, rfl⟩ := trodVars_none hV
  refine (walk W).mono fun e W' ⟨he, bel⟩ => ?_
  subst he
  exact ⟨_, rfl, _, _, _, [], _, [], hW', trodAll_mk1 (shut_bool Try.underlying4 _), trodAll_mk0, rfl, bel.frame _, fun h => by cases h⟩

theorem over : Rows.topNumbersRow.holds Try.pinned (OpenSpec.ofChange Rows.topNumbersSpec) :=
  OpenClaim.holds_of_wide 3 Try.f3 rfl rfl rfl rfl rfl rfl rfl ⟨rfl, rfl, rfl, rfl, rfl⟩ rfl rfl rfl rfl rfl (by kernel_rfl) Try.func3 (by kernel_rfl)
    (of_decide_eq_true (by kernel_rfl)) (by unfold Func.isWrapper; first | (rw [if_pos (by decide +kernel)]; kernel_rfl) | (rw [if_neg (by decide +kernel)]; exact ⟨rfl, rfl⟩))
    (fun os started H enc _ => lifted os started H enc)

/-- The statement. -/
theorem proved : Rows.TopNumbersSaid := over
#print axioms proved

end Go.Proofs.Ytijiigcpeajopaa.topNumbers
