/- CycleEnds: counts over the threads, in plain Lean. -/
import Derived.Test.YtgfabhioliljmaaCeE
namespace Go.Proofs.Ytgfabhioliljmaa
open Go.RowKit
set_option linter.unusedVariables false
set_option linter.unusedSimpArgs false

/-- The first thread that is not scanned. -/
theorem arX_found (x : Wd) (hs : x.sc.length = x.l.length) (ht : x.td.length = x.l.length) : ∀ d m, m + d = x.l.length →
    ((∀ i (h : i < x.sc.length), m ≤ i → x.sc[i] = true) ∧ arX x m = (0, false, false)) ∨
    (∃ k, ∃ (h1 : k < x.l.length) (h2 : k < x.sc.length) (h3 : k < x.td.length), x.sc[k] = false ∧ arX x m = ((k : Int) + 1, x.l[k].still, x.td[k])) := by
  intro d
  induction d with
  | zero =>
    intro m hm
    have : m = x.l.length := by omega
    subst this
    exact .inl ⟨fun i h h2 => by omega, arX_end x⟩
  | succ d ih =>
    intro m hm
    have h1 : m < x.l.length := by omega
    have h2 : m < x.sc.length := by omega
    have h3 : m < x.td.length := by omega
    have hst := arX_step x m h1 h2 h3
    cases hc : x.sc[m] with
    | false =>
      rw [hc, if_neg (by decide)] at hst
      exact .inr ⟨m, h1, h2, h3, hc, hst⟩
    | true =>
      rw [hc, if_pos rfl] at hst
      rcases ih (m + 1) (by omega) with ⟨ha, hb⟩ | ⟨k, k1, k2, k3, hk, he⟩
      · refine .inl ⟨fun i h h4 => ?_, hst.trans hb⟩
        by_cases he : i = m
        · subst he; exact hc
        · exact ha i h (by omega)
      · exact .inr ⟨k, k1, k2, k3, hk, hst.trans he⟩
/-- How many threads were told or scanned. -/
def cnt : List Bool → List Bool → Nat
  | s :: sc, t :: td => (if s = true ∨ t = true then 1 else 0) + cnt sc td
  | _, _ => 0
theorem cnt_le : ∀ sc td : List Bool, cnt sc td ≤ sc.length := by
  intro sc
  induction sc with
  | nil => intro td; cases td <;> simp [cnt]
  | cons s sc ih =>
    intro td
    cases td with
    | nil => simp [cnt]
    | cons t td => have := ih td; simp only [cnt, List.length_cons]; split <;> omega
theorem cnt_app : ∀ sc td : List Bool, sc.length = td.length → cnt (sc ++ [false]) (td ++ [false]) = cnt sc td := by
  intro sc
  induction sc with
  | nil => intro td h; cases td with | nil => simp [cnt] | cons t td => simp at h
  | cons s sc ih =>
    intro td h
    cases td with
    | nil => simp at h
    | cons t td => simp only [List.cons_append, cnt]; rw [ih td (by simpa using h)]
theorem cnt_sc : ∀ (sc td : List Bool) (i : Nat) (h1 : i < sc.length) (h2 : i < td.length), sc[i] = false → cnt (sc.set i true) td = cnt sc td + (if td[i] = true then 0 else 1) := by
  intro sc
  induction sc with
  | nil => intro td i h1; simp at h1
  | cons s sc ih =>
    intro td i h1 h2 h
    cases td with
    | nil => simp at h2
    | cons t td =>
      cases i with
      | zero =>
        simp only [List.getElem_cons_zero] at h
        subst h
        simp only [List.set_cons_zero, cnt, List.getElem_cons_zero]
        cases t <;> simp <;> omega
      | succ i =>
        simp only [List.set_cons_succ, cnt, List.getElem_cons_succ] at h ⊢
        rw [ih td i (by simpa using h1) (by simpa using h2) h]
        omega
theorem cnt_td : ∀ (sc td : List Bool) (i : Nat) (h1 : i < sc.length) (h2 : i < td.length), sc[i] = false → td[i] = false → cnt sc (td.set i true) = cnt sc td + 1 := by
  intro sc
  induction sc with
  | nil => intro td i h1; simp at h1
  | cons s sc ih =>
    intro td i h1 h2 h h3
    cases td with
    | nil => simp at h2
    | cons t td =>
      cases i with
      | zero =>
        simp only [List.getElem_cons_zero] at h h3
        subst h h3
        simp only [List.set_cons_zero, cnt]
        simp; omega
      | succ i =>
        simp only [List.set_cons_succ, cnt, List.getElem_cons_succ] at h h3 ⊢
        rw [ih td i (by simpa using h1) (by simpa using h2) h h3]
        omega
/-- How often threads can yet lay nothing, or their roots. -/
def owe : List Bool → List Int → Nat
  | s :: sc, v :: lt => (if s = true then 0 else v.toNat + 1) + owe sc lt
  | _, _ => 0
theorem owe_app : ∀ (sc : List Bool) (lt : List Int), sc.length = lt.length → owe (sc ++ [false]) (lt ++ [0]) = owe sc lt + 1 := by
  intro sc
  induction sc with
  | nil => intro lt h; cases lt with | nil => simp [owe] | cons t lt => simp at h
  | cons s sc ih =>
    intro lt h
    cases lt with
    | nil => simp at h
    | cons t lt => simp only [List.cons_append, owe]; rw [ih lt (by simpa using h)]; omega
theorem owe_sc : ∀ (sc : List Bool) (lt : List Int) (i : Nat) (h1 : i < sc.length) (h2 : i < lt.length), sc[i] = false → owe (sc.set i true) lt + (lt[i].toNat + 1) = owe sc lt := by
  intro sc
  induction sc with
  | nil => intro lt i h1; simp at h1
  | cons s sc ih =>
    intro lt i h1 h2 h
    cases lt with
    | nil => simp at h2
    | cons t lt =>
      cases i with
      | zero =>
        simp only [List.getElem_cons_zero] at h
        subst h
        simp only [List.set_cons_zero, owe, List.getElem_cons_zero]
        simp; omega
      | succ i =>
        simp only [List.set_cons_succ, owe, List.getElem_cons_succ] at h ⊢
        have := ih lt i (by simpa using h1) (by simpa using h2) h
        omega
theorem owe_lt : ∀ (sc : List Bool) (lt : List Int) (i : Nat) (h1 : i < sc.length) (h2 : i < lt.length), sc[i] = false → 0 < lt[i] → owe sc (lt.set i (lt[i] - 1)) + 1 = owe sc lt := by
  intro sc
  induction sc with
  | nil => intro lt i h1; simp at h1
  | cons s sc ih =>
    intro lt i h1 h2 h h3
    cases lt with
    | nil => simp at h2
    | cons t lt =>
      cases i with
      | zero =>
        simp only [List.getElem_cons_zero] at h h3
        subst h
        simp only [List.set_cons_zero, owe, List.getElem_cons_zero]
        simp; omega
      | succ i =>
        simp only [List.set_cons_succ, owe, List.getElem_cons_succ] at h h3 ⊢
        have := ih lt i (by simpa using h1) (by simpa using h2) h h3
        omega
theorem owe_le : ∀ (sc : List Bool) (lt : List Int), (∀ v ∈ lt, v ≤ 3) → owe sc lt ≤ 4 * sc.length := by
  intro sc
  induction sc with
  | nil => intro lt _; cases lt <;> simp [owe]
  | cons s sc ih =>
    intro lt h
    cases lt with
    | nil => simp [owe]
    | cons t lt =>
      have h1 := ih lt (fun v hv => h v (List.mem_cons_of_mem _ hv))
      have h2 := h t (List.mem_cons_self ..)
      simp only [owe, List.length_cons]
      split <;> omega
end Go.Proofs.Ytgfabhioliljmaa
