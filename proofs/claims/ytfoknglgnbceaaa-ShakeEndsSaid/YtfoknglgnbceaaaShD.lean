import Derived.Test.YtfoknglgnbceaaaShC
import Derived.Deep.AppendLies
import Derived.Laws.OwnMore
namespace Go.Proofs.Ytfoknglgnbceaaa
open Go.RowKit

def pairs (S A : Nat → Bool) (n : Nat) : List Value := (List.range n).flatMap fun i => [.bool (S i), .bool (A i)]
theorem pairs_succ (S A : Nat → Bool) (n : Nat) : pairs S A (n + 1) = pairs S A n ++ [.bool (S n), .bool (A n)] := by
  simp [pairs, List.range_succ]
theorem pairs_length (S A : Nat → Bool) (n : Nat) : (pairs S A n).length = n * 2 := by
  induction n with
  | zero => rfl
  | succ n ih => rw [pairs_succ, List.length_append, ih]; simp; omega
theorem pairs_get (S A : Nat → Bool) (n j : Nat) (h : j < n * 2) : (pairs S A n)[j]? = some (.bool (if j % 2 = 0 then S (j / 2) else A (j / 2))) := by
  induction n with
  | zero => omega
  | succ n ih =>
    rw [pairs_succ]
    by_cases hj : j < n * 2
    · rw [List.getElem?_append_left (by rw [pairs_length]; exact hj)]; exact ih hj
    · rw [List.getElem?_append_right (by rw [pairs_length]; omega), pairs_length]
      rcases (by omega : j = n * 2 ∨ j = n * 2 + 1) with rfl | rfl
      · simp
      · rw [show n * 2 + 1 - n * 2 = 1 by omega, show (n * 2 + 1) % 2 = 1 by omega, show (n * 2 + 1) / 2 = n by omega]; rfl
theorem pairs_setS (S A : Nat → Bool) (n k : Nat) (x : Bool) : (pairs S A n).set (k * 2) (.bool x) = pairs (put S k x) A n := by
  apply List.ext_getElem?
  intro j
  by_cases hj : j < n * 2
  · rw [List.getElem?_set, pairs_get _ _ _ _ hj, pairs_length]
    by_cases e : k * 2 = j
    · subst e; rw [if_pos rfl, if_pos hj, pairs_get _ _ _ _ hj]; simp [put]
    · rw [if_neg e, pairs_get _ _ _ _ hj]
      by_cases h2 : j % 2 = 0
      · rw [if_pos h2, if_pos h2, put_other _ _ _ _ (by omega)]
      · rw [if_neg h2, if_neg h2]
  · rw [List.getElem?_eq_none (by rw [List.length_set, pairs_length]; omega), List.getElem?_eq_none (by rw [pairs_length]; omega)]
theorem pairs_setA (S A : Nat → Bool) (n k : Nat) (x : Bool) : (pairs S A n).set (k * 2 + 1) (.bool x) = pairs S (put A k x) n := by
  apply List.ext_getElem?
  intro j
  by_cases hj : j < n * 2
  · rw [List.getElem?_set, pairs_get _ _ _ _ hj, pairs_length]
    by_cases e : k * 2 + 1 = j
    · subst e; rw [if_pos rfl, if_pos hj, pairs_get _ _ _ _ hj]; simp [put, show (k * 2 + 1) % 2 = 1 by omega, show (k * 2 + 1) / 2 = k by omega]
    · rw [if_neg e, pairs_get _ _ _ _ hj]
      by_cases h2 : j % 2 = 0
      · rw [if_pos h2, if_pos h2]
      · rw [if_neg h2, if_neg h2, put_other _ _ _ _ (by omega)]
  · rw [List.getElem?_eq_none (by rw [List.length_set, pairs_length]; omega), List.getElem?_eq_none (by rw [pairs_length]; omega)]
theorem pairs_congr (S A S' A' : Nat → Bool) (n : Nat) (h : ∀ i, i < n → S i = S' i ∧ A i = A' i) : pairs S A n = pairs S' A' n := by
  apply List.ext_getElem?
  intro j
  by_cases hj : j < n * 2
  · rw [pairs_get _ _ _ _ hj, pairs_get _ _ _ _ hj, (h (j / 2) (by omega)).1, (h (j / 2) (by omega)).2]
  · rw [List.getElem?_eq_none (by rw [pairs_length]; omega), List.getElem?_eq_none (by rw [pairs_length]; omega)]

/-- The document's Shake at block b, its slice v. -/
structure RfAt (w : World) (b : Nat) (v : Value) (S A : Nat → Bool) (n : Nat) (inn : Bool) : Prop where
  le : n ≤ 8
  row : w.cell? ⟨b, 0, none⟩ = some v
  inn : w.cell? ⟨b, 1, none⟩ = some (.bool inn)
  fr : ∀ o, w.frozen? ⟨b, o, none⟩ = false
  own : w.ownsRow 0 54 2 v n (pairs S A n)
  ne : v.ownBlock ≠ some b

def foot (b : Nat) (v : Value) (k : Nat) : Prop := k = b ∨ v.ownBlock = some k

theorem RfAt.lt {w : World} {b : Nat} {v : Value} {S A : Nat → Bool} {n : Nat} {inn : Bool} (h : RfAt w b v S A n inn) : b < w.heap.size := World.block_lt_of_cell? w _ h.row
theorem RfAt.kept {F : Nat → Prop} {w w' : World} {b : Nat} {v : Value} {S A : Nat → Bool} {n : Nat} {inn : Bool} (h : RfAt w b v S A n inn) (u : Upd F w w') (hf : ∀ k, foot b v k → ¬ F k) : RfAt w' b v S A n inn :=
  ⟨h.le, u.cell h.row (hf b (.inl rfl)), u.cell h.inn (hf b (.inl rfl)), fun o => (u.frozen (a := ⟨b, o, none⟩) h.lt (hf b (.inl rfl))).trans (h.fr o), u.ownsRow h.own (fun k hk => hf k (.inr hk)), h.ne⟩
theorem RfAt.drew {w : World} {b : Nat} {v : Value} {S A : Nat → Bool} {n : Nat} {inn : Bool} (h : RfAt w b v S A n inn) : RfAt w.drew b v S A n inn := ⟨h.le, h.row, h.inn, h.fr, h.own, h.ne⟩

/-- What a walk wants of it. -/
theorem RfAt.form {w : World} {b : Nat} {v : Value} {S A : Nat → Bool} {n : Nat} {inn : Bool} (h : RfAt w b v S A n inn) :
    ∃ a cap, v = .slice a n cap ∧ (0 < n → ∃ g, a = some ⟨g, 0, none⟩ ∧ g ≠ b ∧ (∀ i, i < n → w.cell? ⟨g, i * 2, none⟩ = some (.bool (S i))) ∧ (∀ i, i < n → w.cell? ⟨g, i * 2 + 1, none⟩ = some (.bool (A i))) ∧ ∀ o, w.frozen? ⟨g, o, none⟩ = false) := by
  by_cases hn : 0 < n
  · obtain ⟨g, cap, hv, _, _⟩ := h.own.form hn
    have ho := h.own
    rw [hv] at ho
    refine ⟨some ⟨g, 0, none⟩, cap, hv, fun _ => ⟨g, rfl, ?_, fun i hi => ?_, fun i hi => ?_, fun o => ho.frozenAt o⟩⟩
    · intro e; apply h.ne; rw [hv]; simp [Value.ownBlock, e]
    · rw [ho.cellAt (i * 2) (by omega), pairs_get _ _ _ _ (by omega)]; simp
    · rw [ho.cellAt (i * 2 + 1) (by omega), pairs_get _ _ _ _ (by omega)]; simp [show (i * 2 + 1) % 2 = 1 by omega, show (i * 2 + 1) / 2 = i by omega]
  · rcases h.own.2 with ⟨hv, h0⟩ | ⟨g, cap, cur, hv, _⟩
    · exact ⟨none, 0, by rw [hv, h0], fun h => absurd h hn⟩
    · exact ⟨_, cap, hv, fun h => absurd h hn⟩

theorem RfAt.setS {w : World} {b g cap : Nat} {S A : Nat → Bool} {n : Nat} {inn : Bool} (h : RfAt w b (.slice (some ⟨g, 0, none⟩) n cap) S A n inn) (k : Nat) (x : Bool) :
    RfAt (w.setCell ⟨g, k * 2, none⟩ (.bool x)) b (.slice (some ⟨g, 0, none⟩) n cap) (put S k x) A n inn := by
  have hgb : (⟨g, k * 2, none⟩ : Addr).block ≠ b := fun e => h.ne (by simp [Value.ownBlock]; exact e)
  refine ⟨h.le, cell_set_ne h.row (fun e => hgb (by rw [e])), cell_set_ne h.inn (fun e => hgb (by rw [e])), fun o => by rw [World.frozen?_setCell]; exact h.fr o, ?_, h.ne⟩
  rw [← pairs_setS]
  exact (h.own.stored _ _).1
theorem RfAt.setA {w : World} {b g cap : Nat} {S A : Nat → Bool} {n : Nat} {inn : Bool} (h : RfAt w b (.slice (some ⟨g, 0, none⟩) n cap) S A n inn) (k : Nat) (x : Bool) :
    RfAt (w.setCell ⟨g, k * 2 + 1, none⟩ (.bool x)) b (.slice (some ⟨g, 0, none⟩) n cap) S (put A k x) n inn := by
  have hgb : (⟨g, k * 2 + 1, none⟩ : Addr).block ≠ b := fun e => h.ne (by simp [Value.ownBlock]; exact e)
  refine ⟨h.le, cell_set_ne h.row (fun e => hgb (by rw [e])), cell_set_ne h.inn (fun e => hgb (by rw [e])), fun o => by rw [World.frozen?_setCell]; exact h.fr o, ?_, h.ne⟩
  rw [← pairs_setA]
  exact (h.own.stored _ _).1
theorem RfAt.setI {w : World} {b : Nat} {v : Value} {S A : Nat → Bool} {n : Nat} {inn : Bool} (h : RfAt w b v S A n inn) (x : Bool) :
    RfAt (w.setCell ⟨b, 1, none⟩ (.bool x)) b v S A n x :=
  ⟨h.le, cell_set_ne h.row (ne_off (by omega)), World.cell?_setCell_same _ _ _ h.inn, fun o => by rw [World.frozen?_setCell]; exact h.fr o,
    ((Upd.refl (fun k => k = b) w).set (by rfl) _).ownsRow h.own (fun k hk e => h.ne (by rw [hk, e])), h.ne⟩

def rsB (S : Nat → Bool) (n : Nat) (inn : Bool) (t : Int) : Bool := inn && (isB n t && !S (t.toNat - 1))

theorem ropen_calls (b : Nat) (t : Int) (n : Nat) (v : Value) (S A : Nat → Bool) (inn : Bool) (w : World) (h : RfAt w b v S A n inn) :
    Calls Try.prog 28 #[.pointer (some ⟨b, 0, none⟩), .int .i64 t] w fun e w' => e = .returned (.bool (rsB S n inn t)) ∧ w = w' := by
  have h0 := h.row
  have h1 := h.inn
  have hle := h.le
  obtain ⟨a, cap, rfl, hg⟩ := h.form
  cases inn with
  | false =>
    go_enter Try.func28, Try.ntmps28
    go_wp2
    go_ret
    exact ⟨by simp [rsB], rfl⟩
  | true =>
    by_cases hi : isB n t = true
    · obtain ⟨hb1, hb2⟩ := isB_bounds hi
      obtain ⟨g, rfl, _, hS, hA, _⟩ := hg (by omega)
      have hs := hS (t.toNat - 1) (by omega)
      clear hS hA
      go_enter Try.func28, Try.ntmps28
      go_wp2
      go_ret
      exact ⟨by simp [rsB, hi], rfl⟩
    · have hi' : isB n t = false := by simpa using hi
      by_cases ht : 1 ≤ t
      · have ht2 : (n : Int) < t := by simp [isB, ht] at hi'; omega
        clear hg
        go_enter Try.func28, Try.ntmps28
        go_wp2
        go_ret
        exact ⟨by simp [rsB, hi'], rfl⟩
      · have ht2 : t < 1 := by omega
        clear hg
        go_enter Try.func28, Try.ntmps28
        go_wp2
        go_ret
        exact ⟨by simp [rsB, hi'], rfl⟩
end Go.Proofs.Ytfoknglgnbceaaa
