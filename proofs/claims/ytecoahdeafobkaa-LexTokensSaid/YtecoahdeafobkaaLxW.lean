/- Lex: the law LexSpaced. -/
import Derived.Test.YtecoahdeafobkaaLxV
import Derived.Lib.AppendStr
import Derived.Laws.IdiomStrings
namespace Go.Proofs.Ytecoahdeafobkaa
open Go.RowKit
set_option linter.unusedVariables false
set_option linter.unusedSimpArgs false

def ownEnd (s : ByteArray) (x : Tok) : Nat := if x.k = 1 ∨ x.k = 2 ∨ x.k = 3 then x.a + 1 else wordEnd s (x.a + 1)
theorem Reads.own_end {s : ByteArray} {a p : Nat} {x : Tok} (h : Reads s a p x) : p = ownEnd s x := by
  obtain ⟨h1, h2, ⟨h3, _, _, h4⟩ | ⟨_, _, _, _, hp, he, hk, _⟩⟩ := h
  · unfold ownEnd
    rw [if_pos (by rcases h3 with ⟨_, h⟩ | ⟨_, h⟩ | ⟨_, h⟩ <;> simp [h]), h2]; exact h4
  · have := wK_range _ he
    unfold ownEnd
    rw [if_neg (by omega), h2]; exact hp
def mk (s : ByteArray) (gs : List (List UInt8)) (L : List Tok) : List (List UInt8 × Tok × Nat) := List.zipWith (fun g x => (g, x, ownEnd s x)) gs L
theorem mk_snoc (s : ByteArray) : ∀ (gs : List (List UInt8)) (L : List Tok) (g : List UInt8) (x : Tok), L[gs.length]? = some x → mk s (gs ++ [g]) L = mk s gs L ++ [(g, x, ownEnd s x)] := by
  intro gs
  induction gs with
  | nil => intro L g x h; cases L with
    | nil => simp at h
    | cons y L => simp at h; subst h; rfl
  | cons a gs ih => intro L g x h; cases L with
    | nil => simp at h
    | cons y L =>
      have := ih L g x (by simpa using h)
      simp only [mk, List.cons_append, List.zipWith_cons_cons] at this ⊢
      rw [this]
theorem spread_le (s : ByteArray) (l : List (List UInt8 × Tok × Nat)) (hg : ∀ y ∈ l, y.1.length ≤ 18) : (spread s l).length ≤ l.length * (18 + s.size) := by
  induction l with
  | nil => simp [spread]
  | cons y l ih =>
    have h1 := hg y (by simp)
    have h2 := ih (fun z hz => hg z (List.mem_cons_of_mem _ hz))
    have h3 : (if y.2.1.k = 9 then [] else own s y.2).length ≤ s.size := by
      split
      · simp
      · unfold own
        rw [← Lib.size_eq, ByteArray.size_extract]; omega
    simp only [spread, List.length_append, List.length_cons, Nat.add_mul]
    omega

/-- The six gaps. -/
def gapOf : Nat → List UInt8
  | 0 => [32]
  | 1 => [10]
  | 2 => [9, 32, 13]
  | 3 => [32, 59, 32, 97, 32, 99, 111, 109, 109, 101, 110, 116, 32, 40, 32, 39, 10]
  | 4 => [10, 59, 10]
  | _ => [32]
theorem gapOf_gap (i : Nat) : IsGap (gapOf i) ∧ (gapOf i).length ≤ 18 := by
  unfold gapOf
  split <;> exact ⟨⟨by decide, _, _, rfl, by decide⟩, by decide⟩

/-- A slice that reads as numbers. -/
def IsInts (w : World) (A : Option Addr) (n : Nat) : Prop := (n : Int) ≤ 9223372036854775807 ∧ ∀ i, i < n → ∃ b o z, A = some ⟨b, o, none⟩ ∧ b < w.heap.size ∧ w.cell? ⟨b, o + i, none⟩ = some (.int .i64 z)

set_option maxHeartbeats 2000000 in
theorem spaced_bad (s : ByteArray) (A : Option Addr) (n cap : Nat) (hs : Small s) (h : tokErr s) (hb : decide ((20000 : Int) < s.size) = false) (w : World) :
    Calls Try.prog 6 #[.string s, .slice A n cap] w fun e w' => e = .returned (.bool true) ∧ New w w' := by
  have hsz := hs.le
  obtain ⟨er, pl, e0, h12⟩ := tokens_bad s hs h
  have H12 := Lib.hid h12
  clear h12 h
  go_enter Try.func6, Try.ntmps6
  go_wp2_with (first | (go_at_call 9; refine (works_calls _).mono ?_; rintro e w1 ⟨rfl, hu1⟩; have HU1 := Lib.hid hu1; clear hu1) | (go_at_call 12; refine (H12.out _).mono ?_; rintro e w2 ⟨rfl, hu2⟩; have HU2 := Lib.hid hu2; clear hu2))
  go_ret
  exact ⟨rfl, HU1.out.trans HU2.out⟩
end Go.Proofs.Ytecoahdeafobkaa
