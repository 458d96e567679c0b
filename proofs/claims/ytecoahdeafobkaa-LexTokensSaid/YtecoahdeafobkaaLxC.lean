/- Lex: the library's TrimPrefix and Clone. -/
import Derived.Test.YtecoahdeafobkaaLxB
import Derived.Test.YtecoahdeafobkaaShelf
import Derived.Lib.BufferWrite
import Derived.Lib.UnsafeStr
import Derived.Laws.MakeOwn
import Derived.OwnWalk
namespace Go.Proofs.Ytecoahdeafobkaa
open Go.RowKit
set_option linter.unusedVariables false

def bare (s : ByteArray) : ByteArray := if s.size ≠ 0 ∧ at' s 0 = 45 then s.extract 1 s.size else s
def isNeg (s : ByteArray) : Bool := decide (s.size ≠ 0 ∧ at' s 0 = 45)

theorem isNeg_raw (s : ByteArray) (h : 1 ≤ (s.size : Int)) : ((s.extract 0 1).toList == [45]) = isNeg s := by
  rw [Lib.extract_toList]
  have hl : s.size = s.data.toList.length := Lib.size_eq s
  unfold isNeg at'
  rw [hl] at h ⊢
  cases hs : s.data.toList with
  | nil => rw [hs] at h; simp at h
  | cons b l =>
    simp only [List.drop_zero, Nat.sub_zero, List.take_succ_cons, List.take_zero, List.length_cons, List.getD_cons_zero]
    rw [Bool.eq_iff_iff]
    simp only [beq_iff_eq, List.cons.injEq, and_true, decide_eq_true_eq]
    constructor
    · rintro rfl; exact ⟨by omega, rfl⟩
    · rintro ⟨_, h2⟩
      exact UInt8.toNat_inj.mp (by have : b.toNat = 45 := by omega
                                   rw [this]; rfl)

theorem hasPrefix_calls (s : ByteArray) (hs : Small s) (w : World) : Calls Try.prog 60 #[.string s, .string ⟨#[45]⟩] w fun e w' => e = .returned (.bool (isNeg s)) ∧ w = w' := by
  have hsz := hs.le
  by_cases h : s.size = 0
  · have hn : isNeg s = false := by simp [isNeg, h]
    have h1 : ¬ (1 : Int) ≤ s.size := by omega
    have hsz0 : (s.size : Int) = 0 := by omega
    go_enter Try.func60, Try.ntmps60
    go_wp2
    go_ret
    exact ⟨rfl, rfl⟩
  · have h1 : (1 : Int) ≤ s.size := by omega
    have hr := isNeg_raw s h1
    go_enter Try.func60, Try.ntmps60
    go_wp2
    go_ret
    exact ⟨by rw [← hr]; rfl, rfl⟩

theorem trimIn_calls (s : ByteArray) (hs : Small s) (w : World) : Calls Try.prog 57 #[.string s, .string ⟨#[45]⟩] w fun e w' => e = .returned (.string (bare s)) ∧ w = w' := by
  have hsz := hs.le
  have hc := hasPrefix_calls s hs
  by_cases h : isNeg s = true
  · have h1 := of_decide_eq_true h
    have h2 : (1 : Int) ≤ s.size := by omega
    go_enter Try.func57, Try.ntmps57
    go_wp2_with (go_at_call 60; refine (hc _).mono ?_; rintro e w' ⟨rfl, rfl⟩)
    go_ret
    exact ⟨by rw [bare, if_pos h1]; rfl, rfl⟩
  · have h' : isNeg s = false := by simpa using h
    have h1 := of_decide_eq_false h'
    go_enter Try.func57, Try.ntmps57
    go_wp2_with (go_at_call 60; refine (hc _).mono ?_; rintro e w' ⟨rfl, rfl⟩)
    go_ret
    exact ⟨by rw [bare, if_neg h1]; rfl, rfl⟩

theorem trim_calls (s : ByteArray) (hs : Small s) (w : World) : Calls Try.prog 46 #[.string s, .string ⟨#[45]⟩] w fun e w' => e = .returned (.string (bare s)) ∧ w = w' := by
  have hc := trimIn_calls s hs
  go_enter Try.func46, Try.ntmps46
  go_wp2_with (go_at_call 57; refine (hc _).mono ?_; rintro e w' ⟨rfl, rfl⟩)
  go_ret
  exact ⟨rfl, rfl⟩

theorem info5 : (Try.prog.info? 5).map (fun i => (i.zero, i.size, i.bytes)) = some (some (Value.int IntKind.u8 0), 1, 1) := by kernel_rfl

set_option maxHeartbeats 4000000 in
set_option maxRecDepth 100000 in
theorem cloneIn_calls (s : ByteArray) (hs : Small s) (w : World) :
    Calls Try.prog 58 #[.string s] w fun e w' => e = .returned (.string s) ∧ Below w.heap.size w w' := by
  have hsz := hs.le
  by_cases h0 : s.size = 0
  · have hs : s = ⟨#[]⟩ := by
      apply ByteArray.ext
      exact Array.eq_empty_of_size_eq_zero h0
    have hz0 : (s.size : Int) = 0 := by omega
    go_enter Try.func58, Try.ntmps58
    go_wp2
    go_ret
    exact ⟨by rw [hs]; rfl, Below.refl _ _⟩
  · have hz0 : ¬ (s.size : Int) = 0 := by omega
    obtain ⟨i0, hi, hz0, hz1, hz2⟩ := info_parts info5
    have hinfo : (Try.prog.info? 5).map (·.size) = some 1 := by rw [hi]; simp [hz1]
    have hco : Try.prog.cellsOf 5 = 1 := by simp [Program.cellsOf, hi, hz1]
    obtain ⟨M, hM⟩ : ∃ M, M = madeCells (Value.int .u8 0).cells (((s.size : Nat) : Int).toNat * i0.size) := ⟨_, rfl⟩
    have hMs : M.size = s.size := by rw [hM, size_madeCells, hz1]; simp
    have hmk : ∀ W : World, (Instr.makeSlice 37 (.int .i64 (s.size : Int)) (.int .i64 (s.size : Int))).run Try.prog W = .ok (.slice (some ⟨W.heap.size, 0, none⟩) s.size s.size) (W.alloc (.cells M 5)) := fun W => by
      have h := run_make (P := Try.prog) W 37 5 i0 (.int .u8 0) Try.underlying37 hi hz0 .i64 .i64 (s.size : Int) (s.size : Int) (by omega) (by omega) (by rw [hz2]; omega) (by omega)
      rw [← hM] at h
      simpa using h
    clear hM
    have hcp := Lib.run_copy_row_string (P := Try.prog) (w.alloc (.cells M 5)) 37 9 3 5 w.heap.size 0 s.size s.size s M 5 Try.underlying37 hinfo (heap_alloc_new w _) (Nat.le_refl _) (by omega)
    obtain ⟨Y, hY⟩ : ∃ Y, Y = (M.toList.take 0 ++ Lib.byteCells s.data.toList ++ M.toList.drop (0 + s.size)).toArray := ⟨_, rfl⟩
    rw [← hY] at hcp
    have hYl : Y.toList = Lib.byteCells s.data.toList := by
      rw [hY, List.toList_toArray, List.take_zero, List.nil_append, List.drop_of_length_le (by rw [Array.length_toList]; omega), List.append_nil]
    have hYs : Y.size = s.size := by rw [← Array.length_toList, hYl, Lib.byteCells_length, ← Lib.size_eq]
    have hgY : ((w.alloc (.cells M 5)).setRow w.heap.size Y).heap[w.heap.size]? = some (.cells Y 5 (0, 0)) := setRow_heap _ _ M _ 5 (0, 0) (heap_alloc_new w _)
    have hne : s.data.toList ≠ [] := fun e => h0 (by rw [Lib.size_eq, e]; rfl)
    have hUS := Lib.run_unsafeString_row (P := Try.prog) ((w.alloc (.cells M 5)).setRow w.heap.size Y) 137 3 9 5 Try.underlying137 hco w.heap.size Y.size (by unfold World.shape?; rw [hgY]) s.data.toList hne (by rw [← Lib.size_eq]; omega) (by rw [← Lib.size_eq]; omega)
      (fun j x hx => Lib.cells_of_row hgY Y.size j _ (by rw [List.take_of_length_le (by rw [Array.length_toList]; exact Nat.le_refl _), hYl]; simp [Lib.byteCells, hx]))
    rw [← Lib.size_eq] at hUS
    clear hY
    go_enter Try.func58, Try.ntmps58
    go_wp2
    go_ret
    have hb1 : Below w.heap.size w (w.alloc (.cells M 5)) := (Below.refl _ w).alloc (Nat.le_refl _) _
    have hb2 : Below w.heap.size (w.alloc (.cells M 5)) ((w.alloc (.cells M 5)).setRow w.heap.size Y) := ⟨rfl, rfl, rfl, by simp, fun k hk => setRow_other _ _ _ _ (by omega)⟩
    exact ⟨rfl, Lib.below_freeze (hb1.trans hb2) (p := ⟨w.heap.size, 0, none⟩) (Nat.le_refl _) _⟩

theorem clone_calls (s : ByteArray) (hs : Small s) (w : World) :
    Calls Try.prog 50 #[.string s] w fun e w' => e = .returned (.string s) ∧ Below w.heap.size w w' := by
  have hc := cloneIn_calls s hs
  go_enter Try.func50, Try.ntmps50
  go_wp2_with (go_at_call 58; refine (hc _).mono ?_; rintro e w' ⟨rfl, hb⟩)
  go_ret
  exact ⟨rfl, hb⟩
end Go.Proofs.Ytecoahdeafobkaa
