/- Read: data that are only read; Same. -/
import Derived.Test.YtnnjhafjcdjobaaWrA
import Derived.Deep.RegionHeld3
namespace Go.Proofs.Ytnnjhafjcdjobaa
open Go.RowKit
set_option linter.unusedVariables false
set_option linter.unusedSimpArgs false

/-- What stands at a list's elements. -/
def Seen (w : World) (G : Nat → Prop) (v : Value) (es : List El) : Prop :=
  (es = [] ∧ ∃ A c, v = .slice A 0 c) ∨ (∃ g o c, v = .slice (some ⟨g, o, none⟩) es.length c ∧ G g ∧ g < w.heap.size ∧ ∀ j u, (elCells es)[j]? = some u → w.cell? ⟨g, o + j, none⟩ = some u)
/-- Data in memory that is only read; G: the blocks that they may lie in. -/
inductive Sees (w : World) (G : Nat → Prop) : Value → List Dat → Prop
  | mk (v : Value) (es : List El) (h : Seen w G v es) (hn : es.length ≤ 2000000) (hk : ∀ e ∈ es, Sees w G e.kv e.d.kids) : Sees w G v (es.map El.d)
theorem Sees.inv {w : World} {G : Nat → Prop} {v : Value} {l : List Dat} (h : Sees w G v l) : ∃ es : List El, l = es.map El.d ∧ Seen w G v es ∧ es.length ≤ 2000000 ∧ ∀ e ∈ es, Sees w G e.kv e.d.kids := by
  cases h with
  | mk _ es h hn hk => exact ⟨es, rfl, h, hn, hk⟩
theorem Seen.upd {F G : Nat → Prop} {w w' : World} {v : Value} {es : List El} (h : Seen w G v es) (hu : Upd F w w') (hf : ∀ b, G b → ¬ F b) : Seen w' G v es := by
  rcases h with h | ⟨g, o, c, hv, hG, hlt, hc⟩
  · exact .inl h
  · exact .inr ⟨g, o, c, hv, hG, Nat.lt_of_lt_of_le hlt hu.size, fun j u hj => hu.cell (hc j u hj) (hf g hG)⟩
theorem Sees.upd {F G : Nat → Prop} {w w' : World} {v : Value} {l : List Dat} (h : Sees w G v l) (hu : Upd F w w') (hf : ∀ b, G b → ¬ F b) : Sees w' G v l := by
  induction h with
  | mk v es h hn hk ih => exact .mk v es (h.upd hu hf) hn ih
theorem Seen.new {G : Nat → Prop} {w w' : World} {v : Value} {es : List El} (h : Seen w G v es) (hu : New w w') : Seen w' G v es := h.upd hu fun _ _ x => x
theorem Sees.new {G : Nat → Prop} {w w' : World} {v : Value} {l : List Dat} (h : Sees w G v l) (hu : New w w') : Sees w' G v l := h.upd hu fun _ _ x => x
theorem Seen.mono {G G' : Nat → Prop} {w : World} {v : Value} {es : List El} (h : Seen w G v es) (hg : ∀ b, b < w.heap.size → G b → G' b) : Seen w G' v es := by
  rcases h with h | ⟨g, o, c, hv, hG, hlt, hc⟩
  · exact .inl h
  · exact .inr ⟨g, o, c, hv, hg g hlt hG, hlt, hc⟩
theorem Sees.mono {G G' : Nat → Prop} {w : World} {v : Value} {l : List Dat} (h : Sees w G v l) (hg : ∀ b, b < w.heap.size → G b → G' b) : Sees w G' v l := by
  induction h with
  | mk v es h hn hk ih => exact .mk v es (h.mono hg) hn ih
theorem Seen.form {G : Nat → Prop} {w : World} {v : Value} {es : List El} (h : Seen w G v es) : ∃ A c, v = .slice A es.length c := by
  rcases h with ⟨rfl, A, c, h⟩ | ⟨g, o, c, hv, _⟩
  · exact ⟨A, c, h⟩
  · exact ⟨_, c, hv⟩
theorem elCells_get (es : List El) (i : Nat) (hi : i < es.length) (r : Nat) (hr : r < 5) : (elCells es)[i * 5 + r]? = (es[i].cells)[r]? := by
  induction es generalizing i with
  | nil => simp at hi
  | cons e es ih =>
    have hc : e.cells.length = 5 := rfl
    cases i with
    | zero => simp only [elCells, List.flatMap_cons, List.getElem_cons_zero, Nat.zero_mul, Nat.zero_add]; rw [List.getElem?_append_left (by omega)]
    | succ i =>
      simp only [elCells, List.flatMap_cons, List.getElem_cons_succ]
      rw [List.getElem?_append_right (by omega)]
      have : (i + 1) * 5 + r - e.cells.length = i * 5 + r := by omega
      rw [this]
      exact ih i (by simpa using hi)
/-- An element's cells. -/
theorem Seen.at {G : Nat → Prop} {w : World} {v : Value} {es : List El} (h : Seen w G v es) (i : Nat) (hi : i < es.length) :
    ∃ g o c, v = .slice (some ⟨g, o, none⟩) es.length c ∧ G g ∧ g < w.heap.size ∧ w.cell? ⟨g, o + i * 5, none⟩ = some (.int .u8 es[i].d.k) ∧ w.cell? ⟨g, o + i * 5 + 1, none⟩ = some (.int .i64 es[i].d.n) ∧ w.cell? ⟨g, o + i * 5 + 2, none⟩ = some (.string es[i].d.t) ∧
      w.cell? ⟨g, o + i * 5 + 3, none⟩ = some es[i].kv ∧ w.cell? ⟨g, o + i * 5 + 4, none⟩ = some (.bool es[i].d.dot) := by
  rcases h with ⟨rfl, _⟩ | ⟨g, o, c, hv, hG, hlt, hc⟩
  · simp at hi
  · refine ⟨g, o, c, hv, hG, hlt, ?_, ?_, ?_, ?_, ?_⟩
    · exact hc (i * 5) _ ((elCells_get es i hi 0 (by omega)).trans rfl)
    · exact hc (i * 5 + 1) _ ((elCells_get es i hi 1 (by omega)).trans rfl)
    · exact hc (i * 5 + 2) _ ((elCells_get es i hi 2 (by omega)).trans rfl)
    · exact hc (i * 5 + 3) _ ((elCells_get es i hi 3 (by omega)).trans rfl)
    · exact hc (i * 5 + 4) _ ((elCells_get es i hi 4 (by omega)).trans rfl)
end Go.Proofs.Ytnnjhafjcdjobaa
