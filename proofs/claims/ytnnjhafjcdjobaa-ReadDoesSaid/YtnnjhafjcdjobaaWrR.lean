/- Read: put and list, of any datum. -/
import Derived.Test.YtnnjhafjcdjobaaWrL
import Derived.Test.YtnnjhafjcdjobaaPlA
namespace Go.Proofs.Ytnnjhafjcdjobaa
open Go.RowKit
set_option linter.unusedVariables false
set_option linter.unusedSimpArgs false

theorem quote_list : quoteT.toList = [113, 117, 111, 116, 101] := by kernel_rfl
theorem list_of (l : List Dat) (ih : ∀ d ∈ l, WRITES 80 d) (dot : Bool) : WRITES 110 (.mk 5 0 ⟨#[]⟩ l dot) := by
  intro kv G base wb m s v w hs hGb hG hGv hx hb hss hhg hwee hmay
  simp only [Dat.kids] at hs
  obtain ⟨-, -, -, hml, hmd⟩ := mayD_list hmay (by decide) (by decide) (by decide) (by decide)
  obtain ⟨es, rfl, hseen, hn, hks⟩ := hs.inv
  rw [Dat.wee] at hwee
  rw [Dat.hgt] at hss hhg
  have hgl : ∀ e ∈ es, s.size + 4 + 4 * e.d.hgt ≤ 2000000 ∧ e.d.hgt ≤ 70000 := fun e he => by
    have := hgtL_mem e.d (List.mem_map.2 ⟨e, he, rfl⟩)
    omega
  have hih : ∀ e ∈ es, WRITES 80 e.d := fun e he => ih e.d (List.mem_map.2 ⟨e, he, rfl⟩)
  obtain ⟨A, c, rfl⟩ := hseen.form
  have hlenm : (es.map El.d).length = es.length := List.length_map _
  show Calls Try.prog 110 #[.pointer (some ⟨wb, 0, none⟩), .agg #[.int .u8 5, .int .i64 0, .string ⟨#[]⟩, .slice A es.length c, .bool dot]] w _
  have hTT : isQ (es.map El.d) dot = false → txtD (.mk 5 0 ⟨#[]⟩ (es.map El.d) dot) = ⟨#[40]⟩ ++ preT ((es.map El.d).map txtD) es.length dot es.length ++ ⟨#[41]⟩ := fun h => by
    rw [txt_list _ _ _ _ h, hlenm]
  by_cases h2 : es.length = 2
  · cases dot with
    | true =>
      exact list_loop_c 0 ⟨#[]⟩ es A c hih G base wb m s v w hseen hks hn hGb hG hGv hx hb (by omega) hgl hwee.2 hml h2 (hTT (by simp [isQ]))
    | false =>
      match es, h2 with
      | [a, b], _ =>
        obtain ⟨g0, o0, c0, hA, -⟩ := hseen.at 0 (by simp)
        simp only [List.length_cons, List.length_nil, Value.slice.injEq] at hA
        obtain ⟨rfl, -, -⟩ := hA
        by_cases hk : a.d.k = 2
        · by_cases ht : a.d.t = quoteT
          · have hma := mayL_mem hml a.d (by simp)
            have := hgl b (by simp)
            exact list_quote 0 ⟨#[]⟩ a b _ c (hih b (by simp)) hk ht G base wb m s v w hseen (hks b (by simp)) hGb hG hGv hx hb (by omega) this.2 (weeL_mem hwee.2 b.d (by simp)) (mayL_mem hml b.d (by simp)) (txt_quote 0 ⟨#[]⟩ a.d b.d hk ht)
          · refine list_loop_e 0 ⟨#[]⟩ [a, b] g0 o0 c hih G base wb m s v w hseen hks hn hGb hG hGv hx hb (by omega) hgl hwee.2 hml rfl (fun h => ⟨by simp [hk], ?_⟩) (hTT (by simp [isQ, ht]))
            rw [beq_eq_false_iff_ne, ← quote_list]
            exact fun e => ht (toList_inj e)
        · exact list_loop_d 0 ⟨#[]⟩ [a, b] g0 o0 c hih G base wb m s v w hseen hks hn hGb hG hGv hx hb (by omega) hgl hwee.2 hml rfl (fun h => by simp [hk]) (hTT (by simp [isQ, hk]))
  · cases dot with
    | true =>
      have := (hmd rfl).1
      exact list_loop_b 0 ⟨#[]⟩ es A c hih G base wb m s v w hseen hks hn hGb hG hGv hx hb (by omega) hgl hwee.2 hml h2 (by omega) (hTT (by simp [isQ]))
    | false => exact list_loop_a 0 ⟨#[]⟩ es A c hih G base wb m s v w hseen hks hn hGb hG hGv hx hb (by omega) hgl hwee.2 hml h2 (hTT (by simp [isQ, h2]))
/-- put writes any datum. -/
theorem put_calls : ∀ d, WRITES 80 d := by
  intro d
  induction d using Dat.ind with
  | h k n t l dot ih =>
    refine put_of _ fun hk => ?_
    simp only [Dat.k] at hk
    subst hk
    intro kv G base wb m s v w hs hGb hG hGv hx hb hss hhg hwee hmay
    obtain ⟨-, rfl, rfl, -⟩ := mayD_list hmay (by decide) (by decide) (by decide) (by decide)
    exact list_of l ih dot kv G base wb m s v w hs hGb hG hGv hx hb hss hhg hwee hmay
end Go.Proofs.Ytnnjhafjcdjobaa
