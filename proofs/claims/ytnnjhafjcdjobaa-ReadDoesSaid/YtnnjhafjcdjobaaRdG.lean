/- Read: bounds on what is read, in plain Lean; joined, one law. -/
import Derived.Test.YtnnjhafjcdjobaaRdF
namespace Go.Proofs.Ytnnjhafjcdjobaa
open Go.RowKit
set_option linter.unusedVariables false
set_option linter.unusedSimpArgs false

theorem joinD_len (kids : List Dat) (x : Dat) : (joinD kids x).kids.length ≤ kids.length + x.kids.length + 1 := by
  unfold joinD
  split <;> simp [lst, Dat.kids] <;> omega
theorem leafD_kids (L : List Tok) (i : Nat) : (leafD L i).kids = [] := by
  unfold leafD num sym
  repeat' split
  all_goals rfl
theorem p_bounds (L : List Tok) (hL : EndL L) : ∀ n,
    (∀ i o m d i' m', i < L.length → pDat L n i o m = .ok d i' m' → i < i' ∧ i' < L.length ∧ d.kids.length + i ≤ i' ∧ (m ≤ 10000 → m' ≤ 10000)) ∧
    (∀ i o m kids d i' m', i < L.length → pList L n i o m kids = .ok d i' m' → i < i' ∧ i' < L.length ∧ d.kids.length + i ≤ kids.length + i' ∧ (m ≤ 10000 → m' ≤ 10000)) := by
  intro n
  induction n with
  | zero => exact ⟨fun i o m d i' m' _ h => by simp [pDat] at h, fun i o m kids d i' m' _ h => by simp [pList] at h⟩
  | succ n ih =>
    obtain ⟨ihD, ihL⟩ := ih
    refine ⟨fun i o m d i' m' hi h => ?_, fun i o m kids d i' m' hi h => ?_⟩
    · rw [pDat] at h
      by_cases h1 : tokK L i = 1
      · have hi1 := hL.lt hi (by omega)
        rw [if_pos h1] at h
        by_cases h2 : 100 ≤ o
        · rw [if_pos h2] at h; cases h
        · rw [if_neg h2] at h
          by_cases h3 : 10000 < m + 1
          · rw [if_pos h3] at h; cases h
          · rw [if_neg h3] at h
            obtain ⟨a, b, c, e⟩ := ihL _ _ _ _ _ _ _ hi1 h
            simp only [List.length_nil] at c
            exact ⟨by omega, b, by omega, fun _ => e (by omega)⟩
      · rw [if_neg h1] at h
        by_cases h1 : tokK L i = 3
        · have hi1 := hL.lt hi (by omega)
          rw [if_pos h1] at h
          by_cases h2 : 100 ≤ o
          · rw [if_pos h2] at h; cases h
          · rw [if_neg h2] at h
            by_cases h3 : 10000 < m + 2
            · rw [if_pos h3] at h; cases h
            · rw [if_neg h3] at h
              cases hr : pDat L n (i + 1) (o + 1) (m + 2) with
              | ok x j k =>
                rw [hr] at h
                injection h with e1 e2 e3
                obtain ⟨a, b, c, e⟩ := ihD _ _ _ _ _ _ hi1 hr
                subst e1 e2 e3
                refine ⟨by omega, b, ?_, fun _ => e (by omega)⟩
                simp only [lst, Dat.kids, List.length_cons, List.length_nil]
                omega
              | bad e a => rw [hr] at h; cases h
              | out => rw [hr] at h; cases h
        · rw [if_neg h1] at h
          by_cases h1 : 5 ≤ tokK L i ∧ tokK L i ≤ 8
          · have hi1 := hL.lt hi (by omega)
            rw [if_pos h1] at h
            by_cases h3 : 10000 < m + 1
            · rw [if_pos h3] at h; cases h
            · rw [if_neg h3] at h
              injection h with e1 e2 e3
              subst e1 e2 e3
              refine ⟨by omega, hi1, ?_, fun _ => by omega⟩
              rw [leafD_kids]
              simp
          · rw [if_neg h1] at h; cases h
    · rw [pList] at h
      by_cases h1 : tokK L i = 2
      · have hi1 := hL.lt hi (by omega)
        rw [if_pos h1] at h
        injection h with e1 e2 e3
        subst e1 e2 e3
        exact ⟨by omega, hi1, by simp only [lst, Dat.kids]; omega, fun h => h⟩
      · rw [if_neg h1] at h
        by_cases h1 : 0 < kids.length ∧ tokK L i = 4
        · have hi1 := hL.lt hi (by omega)
          rw [if_pos h1] at h
          cases hr : pDat L n (i + 1) o m with
          | ok x j k =>
            rw [hr] at h
            obtain ⟨a, b, c, e⟩ := ihD _ _ _ _ _ _ hi1 hr
            by_cases h2 : tokK L j = 2
            · have hi2 := hL.lt b (by omega)
              simp only [h2, if_true] at h
              injection h with e1 e2 e3
              subst e1 e2 e3
              have := joinD_len kids x
              exact ⟨by omega, hi2, by omega, e⟩
            · simp only [h2, if_false] at h; cases h
          | bad e a => rw [hr] at h; cases h
          | out => rw [hr] at h; cases h
        · rw [if_neg h1] at h
          cases hr : pDat L n i o m with
          | ok x j k =>
            rw [hr] at h
            obtain ⟨a, b, c, e⟩ := ihD _ _ _ _ _ _ hi hr
            obtain ⟨a2, b2, c2, e2⟩ := ihL _ _ _ _ _ _ _ b h
            simp only [List.length_append, List.length_singleton] at c2
            exact ⟨by omega, b2, by omega, fun h => e2 (e h)⟩
          | bad e a => rw [hr] at h; cases h
          | out => rw [hr] at h; cases h

theorem joined_calls (w : World) (base : Nat) (kids : List Dat) (kv : Value) (bs : List Nat) (x : Dat) (tkv : Value) (bsx : List Nat) (h : Own w base kv kids bs) (hx : Own w base tkv x.kids bsx) (hnd : (bs ++ bsx).Nodup) (hb : base ≤ w.heap.size)
    (hlen : kids.length + x.kids.length + 1 ≤ 3000000) :
    Calls Try.prog 129 #[.agg #[.int .u8 5, .int .i64 0, .string ⟨#[]⟩, kv, .bool false], .agg #[.int .u8 x.k, .int .i64 x.n, .string x.t, tkv, .bool x.dot]] w fun e w' => ∃ A c bs', e = .returned (.agg #[.int .u8 5, .int .i64 0, .string ⟨#[]⟩, .slice A (joinD kids x).kids.length c, .bool (joinD kids x).dot]) ∧ joinD kids x = lst (joinD kids x).kids (joinD kids x).dot ∧ Own w' base (.slice A (joinD kids x).kids.length c) (joinD kids x).kids bs' ∧ bs'.Nodup ∧ Upd (fun b => kv.ownBlock = some b) w w' ∧ (∀ b ∈ bs', b ∈ bs ∨ b ∈ bsx ∨ w.heap.size ≤ b) := by
  by_cases hk : x.k = 5
  · refine (joined_list w base kids kv bs x tkv bsx h hx hnd hb (by omega) hk).mono ?_
    rintro e w' ⟨kv', bs', rfl, ho, h1, h2, h3⟩
    have hj : joinD kids x = lst (kids ++ x.kids) x.dot := by rw [joinD, if_pos hk]
    obtain ⟨A, c, rfl, _⟩ := ho.len
    rw [hj]
    exact ⟨A, c, bs', rfl, rfl, ho, h1, h2, h3⟩
  · refine (joined_one w base kids kv bs x tkv bsx h hx hnd hb (by omega) (by simpa using hk)).mono ?_
    rintro e w' ⟨kv', bs', rfl, ho, h1, h2, h3⟩
    have hj : joinD kids x = lst (kids ++ [x]) true := by rw [joinD, if_neg hk]
    obtain ⟨A, c, rfl, _⟩ := ho.len
    rw [hj]
    exact ⟨A, c, bs', rfl, rfl, ho, h1, h2, h3⟩
end Go.Proofs.Ytnnjhafjcdjobaa
