/- Frames: which blocks of memory a call may have turned. -/
import Derived.Below
import Derived.WalkKit
import Derived.Tactics
import Derived.RowKit3
import Derived.Deep.Draws
import Derived.Lib.Hide
namespace Go.Proofs.Ytecoahdeafobkaa
open Go.RowKit

/-- Blocks that were there and for which F does not hold are as they were. -/
structure Upd (F : Nat → Prop) (w w' : World) : Prop where
  os : w'.os = w.os
  tape : w'.tape = w.tape
  output : w'.output = w.output
  size : w.heap.size ≤ w'.heap.size
  block : ∀ k, k < w.heap.size → ¬ F k → w'.heap[k]? = w.heap[k]?

theorem Upd.refl (F : Nat → Prop) (w : World) : Upd F w w := ⟨rfl, rfl, rfl, Nat.le_refl _, fun _ _ _ => rfl⟩
theorem Upd.trans' {F G : Nat → Prop} {a b c : World} (h : Upd F a b) (k : Upd G b c) (hg : ∀ i, i < a.heap.size → G i → F i) : Upd F a c :=
  ⟨k.os.trans h.os, k.tape.trans h.tape, k.output.trans h.output, Nat.le_trans h.size k.size,
    fun i hi hf => (k.block i (Nat.lt_of_lt_of_le hi h.size) (fun g => hf (hg i hi g))).trans (h.block i hi hf)⟩
theorem Upd.trans {F : Nat → Prop} {a b c : World} (h : Upd F a b) (k : Upd F b c) : Upd F a c := h.trans' k fun _ _ x => x
theorem Upd.mono {F G : Nat → Prop} {a b : World} (h : Upd F a b) (hg : ∀ i, i < a.heap.size → F i → G i) : Upd G a b :=
  ⟨h.os, h.tape, h.output, h.size, fun i hi hf => h.block i hi (fun x => hf (hg i hi x))⟩
theorem Upd.alloc {F : Nat → Prop} {a w : World} (h : Upd F a w) (o : Obj) : Upd F a (w.alloc o) :=
  h.trans ⟨rfl, rfl, rfl, by simp, fun k hk _ => Below.heap_alloc _ _ _ (by omega)⟩
theorem Upd.setCell {F : Nat → Prop} {a w : World} (h : Upd F a w) {p : Addr} (hp : p.block < a.heap.size → F p.block) (u : Value) : Upd F a (w.setCell p u) :=
  h.trans' (G := fun k => k = p.block) ⟨rfl, rfl, rfl, by simp [World.setCell], fun k _ hk => Below.heap_setCell _ _ _ _ hk⟩ (fun i hi e => by subst e; exact hp hi)
theorem Upd.set {F : Nat → Prop} {a w : World} (h : Upd F a w) {b i : Nat} (hp : F b) (u : Value) : Upd F a (w.setCell ⟨b, i, none⟩ u) := h.setCell (p := ⟨b, i, none⟩) (fun _ => hp) u
theorem Upd.drew {F : Nat → Prop} {a w : World} (h : Upd F a w) : Upd F a w.drew := ⟨h.os, h.tape, h.output, h.size, h.block⟩
theorem Upd.drewN {F : Nat → Prop} {a w : World} (h : Upd F a w) (n : Nat) : Upd F a (w.drewN n) := ⟨h.os, h.tape, h.output, h.size, h.block⟩
theorem Upd.below {F : Nat → Prop} {a w w' : World} (h : Upd F a w) (k : Below w.heap.size w w') : Upd F a w' :=
  h.trans' (G := fun _ => False) ⟨k.os, k.tape, k.output, k.size, fun i hi _ => k.block i hi⟩ (fun _ _ x => x.elim)
theorem Upd.of_below {F : Nat → Prop} {w w' : World} (k : Below w.heap.size w w') : Upd F w w' := (Upd.refl F w).below k
theorem Upd.grown {F : Nat → Prop} {a w w' : World} {row : Option Nat} (h : Upd F a w) (hg : w.grownBy w' row) (hr : ∀ k, row = some k → k < a.heap.size → F k) : Upd F a w' :=
  h.trans' (G := fun k => some k = row) ⟨hg.os, hg.tape, hg.output, hg.size, fun k hk hn => hg.block k hk hn⟩ (fun i hi e => hr i e.symm hi)
theorem Upd.to_below {w w' : World} (h : Upd (fun k => w.heap.size ≤ k) w w') : Below w.heap.size w w' :=
  ⟨h.os, h.tape, h.output, h.size, fun k hk => h.block k hk (by omega)⟩
theorem Upd.to_below' {F : Nat → Prop} {w w' : World} (h : Upd F w w') (hf : ∀ k, F k → w.heap.size ≤ k) : Below w.heap.size w w' :=
  ⟨h.os, h.tape, h.output, h.size, fun k hk => h.block k hk (fun x => by have := hf k x; omega)⟩
theorem Upd.heap {F : Nat → Prop} {w w' : World} (h : Upd F w w') {k : Nat} {o : Obj} (ho : w.heap[k]? = some o) (hf : ¬ F k) : w'.heap[k]? = some o :=
  (h.block k (Array.getElem?_eq_some_iff.1 ho).1 hf).trans ho
theorem Upd.cell {F : Nat → Prop} {w w' : World} (h : Upd F w w') {a : Addr} {v : Value} (hc : w.cell? a = some v) (hf : ¬ F a.block) : w'.cell? a = some v :=
  (World.cell?_of_block (h.block a.block (World.block_lt_of_cell? w a hc) hf)).trans hc
theorem Upd.frozen {F : Nat → Prop} {w w' : World} (h : Upd F w w') {a : Addr} (hl : a.block < w.heap.size) (hf : ¬ F a.block) : w'.frozen? a = w.frozen? a :=
  World.frozen?_of_block (h.block a.block hl hf)
theorem Upd.ownsRow {F : Nat → Prop} {w w' : World} (h : Upd F w w') {base : Nat} {e : TypeId} {size : Nat} {v : Value} {n : Nat} {xs : List Value} (ho : w.ownsRow base e size v n xs)
    (hf : ∀ k, v.ownBlock = some k → ¬ F k) : w'.ownsRow base e size v n xs := by
  refine ⟨ho.1, ?_⟩
  rcases ho.2 with hn | ⟨g, cap, cur, rfl, hb, hgg, rest⟩
  · exact .inl hn
  · exact .inr ⟨g, cap, cur, rfl, hb, h.heap hgg (hf g rfl), rest⟩

theorem cell_set_ne {w : World} {a p : Addr} {u v : Value} (h : w.cell? a = some v) (hne : p ≠ a) : (w.setCell p u).cell? a = some v :=
  (World.cell?_setCell_other _ _ _ _ hne).trans h
theorem ret1 {v v' : Value} (h : v = v') : Ending.returned v = .returned v' := by rw [h]
theorem ret_bool {a b : Bool} (h : a = b) : Ending.returned (.bool a) = .returned (.bool b) := by rw [h]
theorem ret_int' {k : IntKind} {a b : Int} (h : a = b) : Ending.returned (.int k a) = .returned (.int k b) := by rw [h]

end Go.Proofs.Ytecoahdeafobkaa
