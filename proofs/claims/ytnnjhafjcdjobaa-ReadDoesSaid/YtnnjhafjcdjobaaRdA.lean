/- Read: data, and how they are read out of tokens, in plain Lean. -/
import Derived.Test.YtnnjhafjcdjobaaLxN
namespace Go.Proofs.Ytnnjhafjcdjobaa
open Go.RowKit
set_option linter.unusedVariables false
set_option linter.unusedSimpArgs false

inductive Dat where
  | mk (k n : Int) (t : ByteArray) (kids : List Dat) (dot : Bool)
namespace Dat
def k : Dat → Int | mk k _ _ _ _ => k
def n : Dat → Int | mk _ n _ _ _ => n
def t : Dat → ByteArray | mk _ _ t _ _ => t
def kids : Dat → List Dat | mk _ _ _ l _ => l
def dot : Dat → Bool | mk _ _ _ _ b => b
end Dat
theorem Dat.eta : ∀ d : Dat, d = .mk d.k d.n d.t d.kids d.dot
  | .mk _ _ _ _ _ => rfl
def lst (l : List Dat) (dot : Bool) : Dat := .mk 5 0 ⟨#[]⟩ l dot
def sym (t : ByteArray) : Dat := .mk 2 0 t [] false
def num (n : Int) : Dat := .mk 1 n ⟨#[]⟩ [] false
def zDat : Dat := .mk 0 0 ⟨#[]⟩ [] false
def quoteT : ByteArray := ⟨#[113, 117, 111, 116, 101]⟩

theorem Dat.ind {P : Dat → Prop} (h : ∀ k n t kids dot, (∀ d ∈ kids, P d) → P (.mk k n t kids dot)) : ∀ d, P d :=
  fun d => Dat.rec (motive_1 := P) (motive_2 := fun l => ∀ d ∈ l, P d) (fun k n t kids dot ih => h k n t kids dot ih) (fun d hd => by simp at hd)
    (fun x l hx hl d hd => by
      rcases List.mem_cons.1 hd with rfl | hd
      · exact hx
      · exact hl d hd) d

mutual
def Dat.many : Dat → Nat
  | .mk _ _ _ l _ => 1 + manyL l
def manyL : List Dat → Nat
  | [] => 0
  | d :: l => d.many + manyL l
end
mutual
def Dat.deep : Dat → Nat
  | .mk k _ _ l _ => if k = 5 then deepL l + 1 else 0
def deepL : List Dat → Nat
  | [] => 0
  | d :: l => max d.deep (deepL l)
end
mutual
/-- How deep it is nested, whatever its kind. -/
def Dat.hgt : Dat → Nat
  | .mk _ _ _ l _ => hgtL l + 1
def hgtL : List Dat → Nat
  | [] => 0
  | d :: l => max d.hgt (hgtL l)
end

/-- What reading gives. -/
inductive PR (α : Type) where
  | ok (v : α) (at_ many : Nat)
  | bad (e : Int) (a : Nat)
  | out

def tokK (L : List Tok) (i : Nat) : Int := match L[i]? with | some x => x.k | none => 9
def tokA (L : List Tok) (i : Nat) : Nat := match L[i]? with | some x => x.a | none => 0
def tokN (L : List Tok) (i : Nat) : Int := match L[i]? with | some x => x.n | none => 0
def tokT (L : List Tok) (i : Nat) : ByteArray := match L[i]? with | some x => x.t | none => ⟨#[]⟩
/-- A list with its tail. -/
def joinD (kids : List Dat) (x : Dat) : Dat := if x.k = 5 then lst (kids ++ x.kids) x.dot else lst (kids ++ [x]) true
/-- What a token that is a datum by itself reads as. -/
def leafD (L : List Tok) (i : Nat) : Dat := if tokK L i = 5 then num (tokN L i) else if tokK L i = 6 then sym (tokT L i) else if tokK L i = 7 then .mk 3 0 ⟨#[]⟩ [] false else .mk 4 0 ⟨#[]⟩ [] false

mutual
def pDat (L : List Tok) : Nat → Nat → Nat → Nat → PR Dat
  | 0, _, _, _ => .out
  | n + 1, i, o, m =>
    if tokK L i = 1 then
      if 100 ≤ o then .bad 61 (tokA L i) else if 10000 < m + 1 then .bad 62 (tokA L i) else pList L n (i + 1) (o + 1) (m + 1) []
    else if tokK L i = 3 then
      if 100 ≤ o then .bad 61 (tokA L i) else if 10000 < m + 2 then .bad 62 (tokA L i)
      else match pDat L n (i + 1) (o + 1) (m + 2) with
        | .ok d i' m' => .ok (lst [sym quoteT, d] false) i' m'
        | .bad e a => .bad e a
        | .out => .out
    else if 5 ≤ tokK L i ∧ tokK L i ≤ 8 then
      if 10000 < m + 1 then .bad 62 (tokA L i) else .ok (leafD L i) (i + 1) (m + 1)
    else .bad 60 (tokA L i)
def pList (L : List Tok) : Nat → Nat → Nat → Nat → List Dat → PR Dat
  | 0, _, _, _, _ => .out
  | n + 1, i, o, m, kids =>
    if tokK L i = 2 then .ok (lst kids false) (i + 1) m
    else if 0 < kids.length ∧ tokK L i = 4 then
      match pDat L n (i + 1) o m with
      | .ok x i' m' => if tokK L i' = 2 then .ok (joinD kids x) (i' + 1) m' else .bad 60 (tokA L i')
      | .bad e a => .bad e a
      | .out => .out
    else match pDat L n i o m with
      | .ok x i' m' => pList L n i' o m' (kids ++ [x])
      | .bad e a => .bad e a
      | .out => .out
end
def pTop (L : List Tok) : Nat → Nat → Nat → List Dat → PR (List Dat)
  | 0, _, _, _ => .out
  | n + 1, i, m, acc =>
    if tokK L i = 9 then .ok acc i m
    else match pDat L n i 0 m with
      | .ok x i' m' => pTop L n i' m' (acc ++ [x])
      | .bad e a => .bad e a
      | .out => .out

/-- Tokens that end, at the last one alone. -/
structure EndL (L : List Tok) : Prop where
  pos : 0 < L.length
  last : tokK L (L.length - 1) = 9
  only : ∀ i, i + 1 < L.length → tokK L i ≠ 9
theorem EndL.lt {L : List Tok} (h : EndL L) {i : Nat} (hi : i < L.length) (hk : tokK L i ≠ 9) : i + 1 < L.length := by
  rcases Nat.lt_or_ge (i + 1) L.length with h1 | h1
  · exact h1
  · have : i = L.length - 1 := by omega
    rw [this] at hk
    exact absurd h.last hk

/-- There is fuel enough, and reading stays within the tokens. -/
def Fine (L : List Tok) (i : Nat) (r : PR Dat) : Prop := r ≠ .out ∧ ∀ d i' m', r = .ok d i' m' → i < i' ∧ i' < L.length
theorem Fine.bad {L : List Tok} {i : Nat} (e : Int) (a : Nat) : Fine L i (.bad e a) := ⟨(by intro h; cases h), (by intro d i' m' h; cases h)⟩
theorem Fine.ok {L : List Tok} {i i' m' : Nat} {d : Dat} (h : i < i') (h2 : i' < L.length) : Fine L i (.ok d i' m') := ⟨(by intro h; cases h), (by intro d i' m' h; cases h; exact ⟨by assumption, by assumption⟩)⟩
theorem Fine.more {L : List Tok} {i j : Nat} {r : PR Dat} (h : Fine L j r) (hi : i ≤ j) : Fine L i r := ⟨h.1, fun d i' m' e => by have := h.2 d i' m' e; omega⟩
theorem p_fuel (L : List Tok) (hL : EndL L) : ∀ n,
    (∀ i o m, i < L.length → 2 * (L.length - i) ≤ n → Fine L i (pDat L n i o m)) ∧
    (∀ i o m kids, i < L.length → 2 * (L.length - i) + 1 ≤ n → Fine L i (pList L n i o m kids)) := by
  intro n
  induction n with
  | zero => exact ⟨fun i o m h1 h2 => by omega, fun i o m kids h1 h2 => by omega⟩
  | succ n ih =>
    obtain ⟨ihD, ihL⟩ := ih
    refine ⟨fun i o m hi hn => ?_, fun i o m kids hi hn => ?_⟩
    · rw [pDat]
      by_cases h1 : tokK L i = 1
      · have hi1 := hL.lt hi (by omega)
        rw [if_pos h1]
        by_cases h2 : 100 ≤ o
        · rw [if_pos h2]; exact .bad _ _
        · rw [if_neg h2]
          by_cases h3 : 10000 < m + 1
          · rw [if_pos h3]; exact .bad _ _
          · rw [if_neg h3]; exact (ihL (i + 1) (o + 1) (m + 1) [] hi1 (by omega)).more (by omega)
      · rw [if_neg h1]
        by_cases h1 : tokK L i = 3
        · have hi1 := hL.lt hi (by omega)
          rw [if_pos h1]
          by_cases h2 : 100 ≤ o
          · rw [if_pos h2]; exact .bad _ _
          · rw [if_neg h2]
            by_cases h3 : 10000 < m + 2
            · rw [if_pos h3]; exact .bad _ _
            · rw [if_neg h3]
              have := ihD (i + 1) (o + 1) (m + 2) hi1 (by omega)
              cases hr : pDat L n (i + 1) (o + 1) (m + 2) with
              | ok d i' m' => have := this.2 d i' m' hr; exact .ok (by omega) this.2
              | bad e a => exact .bad _ _
              | out => exact absurd hr this.1
        · rw [if_neg h1]
          by_cases h1 : 5 ≤ tokK L i ∧ tokK L i ≤ 8
          · have hi1 := hL.lt hi (by omega)
            rw [if_pos h1]
            by_cases h3 : 10000 < m + 1
            · rw [if_pos h3]; exact .bad _ _
            · rw [if_neg h3]; exact .ok (by omega) hi1
          · rw [if_neg h1]; exact .bad _ _
    · rw [pList]
      by_cases h1 : tokK L i = 2
      · have hi1 := hL.lt hi (by omega)
        rw [if_pos h1]; exact .ok (by omega) hi1
      · rw [if_neg h1]
        by_cases h1 : 0 < kids.length ∧ tokK L i = 4
        · have hi1 := hL.lt hi (by omega)
          rw [if_pos h1]
          have := ihD (i + 1) o m hi1 (by omega)
          cases hr : pDat L n (i + 1) o m with
          | ok d i' m' =>
            have := this.2 d i' m' hr
            by_cases h2 : tokK L i' = 2
            · have hi2 := hL.lt this.2 (by omega)
              simp only [h2, if_true]; exact .ok (by omega) hi2
            · simp only [h2, if_false]; exact .bad _ _
          | bad e a => exact .bad _ _
          | out => exact absurd hr this.1
        · rw [if_neg h1]
          have := ihD i o m hi (by omega)
          cases hr : pDat L n i o m with
          | ok d i' m' => have := this.2 d i' m' hr; exact (ihL i' o m' _ this.2 (by omega)).more (by omega)
          | bad e a => exact .bad _ _
          | out => exact absurd hr this.1
end Go.Proofs.Ytnnjhafjcdjobaa
