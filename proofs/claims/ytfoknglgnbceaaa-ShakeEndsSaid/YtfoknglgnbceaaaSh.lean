import Derived.Test.YtfoknglgnbceaaaProg
import Derived.Test.YtfoknglgnbceaaaFx
import Derived.KernelRfl
import Derived.Deep.LoopGhost
import Derived.Deep.QuietTactic
import Derived.BigQuiet
import Derived.StillTailTactics
import Derived.RegionTactic
import Derived.LoopTactic
import Derived.Outline
import Derived.Handy
namespace Go.Proofs.Ytfoknglgnbceaaa
open Go.RowKit

/-- The Shake at block b. -/
structure ShAt (w : World) (b : Nat) (S A : Nat → Bool) (n : Nat) (inn : Bool) : Prop where
  le : n ≤ 8
  many : w.cell? ⟨b, 16, none⟩ = some (.int .i64 n)
  inn : w.cell? ⟨b, 17, none⟩ = some (.bool inn)
  S : ∀ i, i < 8 → w.cell? ⟨b, i * 2, none⟩ = some (.bool (S i))
  A : ∀ i, i < 8 → w.cell? ⟨b, i * 2 + 1, none⟩ = some (.bool (A i))
  fr : ∀ o, w.frozen? ⟨b, o, none⟩ = false

theorem ShAt.lt {w : World} {b : Nat} {S A : Nat → Bool} {n : Nat} {inn : Bool} (h : ShAt w b S A n inn) : b < w.heap.size := World.block_lt_of_cell? w _ h.many
theorem ShAt.kept {F : Nat → Prop} {w w' : World} {b : Nat} {S A : Nat → Bool} {n : Nat} {inn : Bool} (h : ShAt w b S A n inn) (u : Upd F w w') (hf : ¬ F b) : ShAt w' b S A n inn :=
  ⟨h.le, u.cell h.many hf, u.cell h.inn hf, fun i hi => u.cell (h.S i hi) hf, fun i hi => u.cell (h.A i hi) hf, fun o => (u.frozen (a := ⟨b, o, none⟩) h.lt hf).trans (h.fr o)⟩

def put (f : Nat → Bool) (k : Nat) (x : Bool) : Nat → Bool := fun i => if i = k then x else f i
theorem put_same (f : Nat → Bool) (k : Nat) (x : Bool) : put f k x k = x := by simp [put]
theorem put_other (f : Nat → Bool) (k : Nat) (x : Bool) (i : Nat) (h : i ≠ k) : put f k x i = f i := by simp [put, h]

theorem ne_off {b i j : Nat} (h : i ≠ j) : (⟨b, i, none⟩ : Addr) ≠ ⟨b, j, none⟩ := fun e => h (by injection e)

theorem ShAt.setS {w : World} {b : Nat} {S A : Nat → Bool} {n : Nat} {inn : Bool} (h : ShAt w b S A n inn) (k : Nat) (hk : k < 8) (x : Bool) :
    ShAt (w.setCell ⟨b, k * 2, none⟩ (.bool x)) b (put S k x) A n inn := by
  refine ⟨h.le, cell_set_ne h.many (ne_off (by omega)), cell_set_ne h.inn (ne_off (by omega)), fun i hi => ?_, fun i hi => cell_set_ne (h.A i hi) (ne_off (by omega)), fun o => by rw [World.frozen?_setCell]; exact h.fr o⟩
  by_cases e : i = k
  · subst e; rw [put_same]; exact World.cell?_setCell_same _ _ _ (h.S i hi)
  · rw [put_other _ _ _ _ e]; exact cell_set_ne (h.S i hi) (ne_off (by omega))
theorem ShAt.setA {w : World} {b : Nat} {S A : Nat → Bool} {n : Nat} {inn : Bool} (h : ShAt w b S A n inn) (k : Nat) (hk : k < 8) (x : Bool) :
    ShAt (w.setCell ⟨b, k * 2 + 1, none⟩ (.bool x)) b S (put A k x) n inn := by
  refine ⟨h.le, cell_set_ne h.many (ne_off (by omega)), cell_set_ne h.inn (ne_off (by omega)), fun i hi => cell_set_ne (h.S i hi) (ne_off (by omega)), fun i hi => ?_, fun o => by rw [World.frozen?_setCell]; exact h.fr o⟩
  by_cases e : i = k
  · subst e; rw [put_same]; exact World.cell?_setCell_same _ _ _ (h.A i hi)
  · rw [put_other _ _ _ _ e]; exact cell_set_ne (h.A i hi) (ne_off (by omega))
theorem ShAt.setI {w : World} {b : Nat} {S A : Nat → Bool} {n : Nat} {inn : Bool} (h : ShAt w b S A n inn) (x : Bool) :
    ShAt (w.setCell ⟨b, 17, none⟩ (.bool x)) b S A n x :=
  ⟨h.le, cell_set_ne h.many (ne_off (by omega)), World.cell?_setCell_same _ _ _ h.inn, fun i hi => cell_set_ne (h.S i hi) (ne_off (by omega)), fun i hi => cell_set_ne (h.A i hi) (ne_off (by omega)), fun o => by rw [World.frozen?_setCell]; exact h.fr o⟩
theorem ShAt.drew {w : World} {b : Nat} {S A : Nat → Bool} {n : Nat} {inn : Bool} (h : ShAt w b S A n inn) : ShAt w.drew b S A n inn := ⟨h.le, h.many, h.inn, h.S, h.A, h.fr⟩
theorem ShAt.setN {w : World} {b : Nat} {S A : Nat → Bool} {n : Nat} {inn : Bool} (h : ShAt w b S A n inn) (m : Nat) (hm : m ≤ 8) (z : Int) (hz : z = m) :
    ShAt (w.setCell ⟨b, 16, none⟩ (.int .i64 z)) b S A m inn := hz ▸
  ⟨hm, World.cell?_setCell_same _ _ _ h.many, cell_set_ne h.inn (ne_off (by omega)), fun i hi => cell_set_ne (h.S i hi) (ne_off (by omega)), fun i hi => cell_set_ne (h.A i hi) (ne_off (by omega)), fun o => by rw [World.frozen?_setCell]; exact h.fr o⟩

def isB (n : Nat) (t : Int) : Bool := decide (1 ≤ t) && decide (t ≤ n)
def scB (S : Nat → Bool) (n : Nat) (inn : Bool) (t : Int) : Bool := isB n t && (!inn || S (t.toNat - 1))
def asB (A : Nat → Bool) (n : Nat) (inn : Bool) (t : Int) : Bool := inn && (isB n t && A (t.toNat - 1))

theorem is_calls (b : Nat) (t : Int) (n : Nat) (w : World) (h16 : w.cell? ⟨b, 16, none⟩ = some (.int .i64 n)) :
    Calls Try.prog 27 #[.pointer (some ⟨b, 0, none⟩), .int .i64 t] w fun e w' => e = .returned (.bool (isB n t)) ∧ w = w' := by
  by_cases h1 : 1 ≤ t
  · have h1b : decide (1 ≤ t) = true := decide_eq_true h1
    go_enter Try.func27, Try.ntmps27
    go_wp2
    go_ret
    exact ⟨by simp [isB, h1], rfl⟩
  · have h1b : decide (1 ≤ t) = false := decide_eq_false h1
    go_enter Try.func27, Try.ntmps27
    go_wp2
    go_ret
    exact ⟨by simp [isB, h1b], rfl⟩

theorem isB_bounds {n : Nat} {t : Int} (h : isB n t = true) : 1 ≤ t ∧ t ≤ n := by simpa [isB] using h

theorem scanned_calls (b : Nat) (t : Int) (n : Nat) (S A : Nat → Bool) (inn : Bool) (w : World) (h : ShAt w b S A n inn) :
    Calls Try.prog 14 #[.pointer (some ⟨b, 0, none⟩), .int .i64 t] w fun e w' => e = .returned (.bool (scB S n inn t)) ∧ w = w' := by
  have h16 := h.many
  have h17 := h.inn
  have hle := h.le
  by_cases h1 : isB n t = true
  · obtain ⟨hb1, hb2⟩ := isB_bounds h1
    cases inn with
    | false =>
      go_enter Try.func14, Try.ntmps14
      go_wp2_with (go_at_call 27; refine (is_calls b t n _ h16).mono ?_; rintro e w' ⟨rfl, rfl⟩)
      go_ret
      exact ⟨by simp [scB, h1], rfl⟩
    | true =>
      have hs := h.S (t.toNat - 1) (by omega)
      go_enter Try.func14, Try.ntmps14
      go_wp2_with (go_at_call 27; refine (is_calls b t n _ h16).mono ?_; rintro e w' ⟨rfl, rfl⟩)
      go_ret
      exact ⟨by simp [scB, h1], rfl⟩
  · have h1' : isB n t = false := by simpa using h1
    go_enter Try.func14, Try.ntmps14
    go_wp2_with (go_at_call 27; refine (is_calls b t n _ h16).mono ?_; rintro e w' ⟨rfl, rfl⟩)
    go_ret
    exact ⟨by simp [scB, h1'], rfl⟩

theorem asked_calls (b : Nat) (t : Int) (n : Nat) (S A : Nat → Bool) (inn : Bool) (w : World) (h : ShAt w b S A n inn) :
    Calls Try.prog 23 #[.pointer (some ⟨b, 0, none⟩), .int .i64 t] w fun e w' => e = .returned (.bool (asB A n inn t)) ∧ w = w' := by
  have h16 := h.many
  have h17 := h.inn
  have hle := h.le
  cases inn with
  | false =>
    go_enter Try.func23, Try.ntmps23
    go_wp2
    go_ret
    exact ⟨by simp [asB], rfl⟩
  | true =>
    by_cases h1 : isB n t = true
    · obtain ⟨hb1, hb2⟩ := isB_bounds h1
      have hs := h.A (t.toNat - 1) (by omega)
      go_enter Try.func23, Try.ntmps23
      go_wp2_with (go_at_call 27; refine (is_calls b t n _ h16).mono ?_; rintro e w' ⟨rfl, rfl⟩)
      go_ret
      exact ⟨by simp [asB, h1], rfl⟩
    · have h1' : isB n t = false := by simpa using h1
      go_enter Try.func23, Try.ntmps23
      go_wp2_with (go_at_call 27; refine (is_calls b t n _ h16).mono ?_; rintro e w' ⟨rfl, rfl⟩)
      go_ret
      exact ⟨by simp [asB, h1'], rfl⟩

/-- The first place from i on, of d, where f is false, and 1; 0: none. -/
def leftFrom (f : Nat → Bool) : Nat → Nat → Nat
  | _, 0 => 0
  | i, d + 1 => if f i then leftFrom f (i + 1) d else i + 1

def leftS (S : Nat → Bool) (n : Nat) (inn : Bool) : Nat := leftFrom (fun i => scB S n inn (i + 1)) 0 n

theorem left_calls (b : Nat) (n : Nat) (S A : Nat → Bool) (inn : Bool) (w : World) (h : ShAt w b S A n inn) :
    Calls Try.prog 13 #[.pointer (some ⟨b, 0, none⟩)] w fun e w' => e = .returned (.int .i64 (leftS S n inn)) ∧ w = w' := by
  have h16 := h.many
  have hle := h.le
  go_enter Try.func13, Try.ntmps13
  go_wp2
  go_loop [3, 8] (fun _ i => ∃ k : Nat, k ≤ n ∧ i = .int .i64 k ∧ Hid (leftS S n inn = leftFrom (fun i => scB S n inn (i + 1)) k (n - k))) (fun _ i => n - (intOf i).toNat)
  case atStart => exact ⟨0, Nat.zero_le _, rfl, rfl⟩
  case round =>
    obtain ⟨k, hk, rfl, hl⟩ := hrel
    by_cases hlt : k < n
    · by_cases hs : scB S n inn (k + 1) = true
      · go_wp2_with (go_at_call 14; refine (scanned_calls b _ n S A inn _ h).mono ?_; rintro e w' ⟨rfl, rfl⟩)
        go_round
        case rel => exact ⟨k + 1, by omega, by go_num, by
          have := hl.out; rw [show n - k = (n - (k + 1)) + 1 by omega, leftFrom, if_pos hs] at this; exact this⟩
        case measure => simp [intOf]; omega
      · have hs' : scB S n inn (k + 1) = false := by simpa using hs
        go_wp2_with (go_at_call 14; refine (scanned_calls b _ n S A inn _ h).mono ?_; rintro e w' ⟨rfl, rfl⟩)
        go_ret
        exact ⟨ret_int' (by
          have := hl.out; rw [show n - k = (n - (k + 1)) + 1 by omega, leftFrom, if_neg hs] at this; rw [this]; simp), rfl⟩
    · have hkn : k = n := by omega
      subst hkn
      go_wp2
      go_ret
      exact ⟨ret_int' (by have := hl.out; rw [Nat.sub_self, leftFrom] at this; rw [this]; rfl), rfl⟩

theorem new_calls (w : World) :
    Calls Try.prog 7 #[] w fun e w' => e = .returned (.pointer (some ⟨w.heap.size, 0, none⟩)) ∧ ShAt w' w.heap.size (fun _ => false) (fun _ => false) 0 false ∧ Upd (fun _ => False) w w' ∧ w'.heap.size = w.heap.size + 1 := by
  go_enter Try.func7, Try.ntmps7
  go_wp2
  go_ret
  refine ⟨rfl, ?_, (Upd.refl _ _).alloc _, by simp⟩
  refine ⟨by omega, by simp, by simp, fun i hi => ?_, fun i hi => ?_, fun o => ?_⟩
  · rcases (by omega : i = 0 ∨ i = 1 ∨ i = 2 ∨ i = 3 ∨ i = 4 ∨ i = 5 ∨ i = 6 ∨ i = 7) with rfl | rfl | rfl | rfl | rfl | rfl | rfl | rfl <;> simp
  · rcases (by omega : i = 0 ∨ i = 1 ∨ i = 2 ∨ i = 3 ∨ i = 4 ∨ i = 5 ∨ i = 6 ∨ i = 7) with rfl | rfl | rfl | rfl | rfl | rfl | rfl | rfl <;> simp
  · simp
end Go.Proofs.Ytfoknglgnbceaaa
