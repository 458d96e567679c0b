/- Read: a datum, whatever it is. -/
import Derived.Test.YtnnjhafjcdjobaaRdH
namespace Go.Proofs.Ytnnjhafjcdjobaa
open Go.RowKit
set_option linter.unusedVariables false
set_option linter.unusedSimpArgs false

theorem datum_all (L : List Tok) (hL : EndL L) (hl : (L.length : Int) ≤ 1048577) (pb tg tc : Nat) (hne : tg ≠ pb) : ∀ n, DATUM L pb tg tc n := by
  intro n
  induction n using Nat.strongRecOn with
  | ind n ih =>
    intro w i o m hp ht hi hf hm ho
    have hfine := ((p_fuel L hL n).1 i o m hi hf).1
    obtain ⟨n', rfl⟩ : ∃ n', n = n' + 1 := ⟨n - 1, by omega⟩
    have hlist := list_step L hL hl pb tg tc hne n' (fun q hq => ih q (by omega))
    rw [pDat] at hfine ⊢
    by_cases h1 : tokK L i = 1
    · have hi1 := hL.lt hi (by omega)
      rw [if_pos h1] at hfine ⊢
      by_cases h2 : 100 ≤ o
      · rw [if_pos h2] at hfine ⊢
        exact datum_open_deep L w pb tg tc i o m hp ht hi hl hne h1 h2
      · rw [if_neg h2] at hfine ⊢
        by_cases h3 : 10000 < m + 1
        · rw [if_pos h3] at hfine ⊢
          exact datum_open_much L w pb tg tc i o m hp ht hi hl hne h1 (by omega) h3 hm
        · rw [if_neg h3] at hfine ⊢
          have hc : ∀ w, Par w pb tg L.length tc (i + 1 : Nat) (o + 1 : Nat) (m + 1 : Nat) → Toks w tg L → Calls Try.prog 101 #[.pointer (some ⟨pb, 0, none⟩)] w (DatPost w pb tg L.length tc (o + 1) (pList L n' (i + 1) (o + 1) (m + 1) [])) := fun w hp ht =>
            hlist w (i + 1) (o + 1) (m + 1) hp ht hi1 (by omega) (by omega) (by omega)
          cases hr : pList L n' (i + 1) (o + 1) (m + 1) [] with
          | ok d j k => rw [hr] at hc; exact datum_open_ok L w pb tg tc i o m hp ht hi hl hne h1 (by omega) (by omega) d j k hc
          | bad e a => rw [hr] at hc; exact datum_open_bad L w pb tg tc i o m hp ht hi hl hne h1 (by omega) (by omega) e a hc
          | out => rw [hr] at hfine; exact absurd rfl hfine
    · rw [if_neg h1] at hfine ⊢
      by_cases h1' : tokK L i = 3
      · have hi1 := hL.lt hi (by omega)
        rw [if_pos h1'] at hfine ⊢
        by_cases h2 : 100 ≤ o
        · rw [if_pos h2] at hfine ⊢
          exact datum_quote_deep L w pb tg tc i o m hp ht hi hl hne h1' h2
        · rw [if_neg h2] at hfine ⊢
          by_cases h3 : 10000 < m + 2
          · rw [if_pos h3] at hfine ⊢
            exact datum_quote_much L w pb tg tc i o m hp ht hi hl hne h1' (by omega) h3 hm
          · rw [if_neg h3] at hfine ⊢
            have hc : ∀ w, Par w pb tg L.length tc (i + 1 : Nat) (o + 1 : Nat) (m + 2 : Nat) → Toks w tg L → Calls Try.prog 54 #[.pointer (some ⟨pb, 0, none⟩)] w (DatPost w pb tg L.length tc (o + 1) (pDat L n' (i + 1) (o + 1) (m + 2))) := fun w hp ht =>
              ih n' (by omega) w (i + 1) (o + 1) (m + 2) hp ht hi1 (by omega) (by omega) (by omega)
            cases hr : pDat L n' (i + 1) (o + 1) (m + 2) with
            | ok d j k => rw [hr] at hc; exact datum_quote_ok L w pb tg tc i o m hp ht hi hl hne h1' (by omega) (by omega) d j k hc
            | bad e a => rw [hr] at hc; exact datum_quote_bad L w pb tg tc i o m hp ht hi hl hne h1' (by omega) (by omega) e a hc
            | out => rw [hr] at hfine; exact absurd rfl hfine
      · rw [if_neg h1'] at hfine ⊢
        by_cases h2 : 5 ≤ tokK L i ∧ tokK L i ≤ 8
        · rw [if_pos h2] at hfine ⊢
          have hk : tokK L i = 5 ∨ tokK L i = 6 ∨ tokK L i = 7 ∨ tokK L i = 8 := by omega
          by_cases h3 : 10000 < m + 1
          · rw [if_pos h3]
            exact datum_leaf_bad L w pb tg tc i o m hp ht hi hl hne h3 hm hk
          · rw [if_neg h3]
            refine (datum_leaf L w pb tg tc i o m hp ht hi hl (by omega) hk).mono ?_
            rintro e w' ⟨rfl, h4, h5⟩
            exact ⟨_, [], rfl, h4, h5, by rw [leafD_kids]; exact Own.nil _ _, List.nodup_nil⟩
        · rw [if_neg h2]
          exact datum_form L w pb tg tc i o m hp ht hi hl _ rfl (by simpa using h1) (by simpa using h1') (by rw [beq_eq_false_iff_ne]; omega) (by rw [beq_eq_false_iff_ne]; omega) (by rw [beq_eq_false_iff_ne]; omega) (by rw [beq_eq_false_iff_ne]; omega)
end Go.Proofs.Ytnnjhafjcdjobaa
