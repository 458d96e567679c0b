/- Read: check, of any datum. -/
import Derived.Test.YtnnjhafjcdjobaaWrE
namespace Go.Proofs.Ytnnjhafjcdjobaa
open Go.RowKit
set_option linter.unusedVariables false
set_option linter.unusedSimpArgs false

theorem size0 {t : ByteArray} (h : t.size = 0) : t = ⟨#[]⟩ := by
  cases t with
  | mk a => cases a with | mk l => cases l with | nil => rfl | cons b l => simp [ByteArray.size] at h
set_option maxHeartbeats 4000000 in
set_option maxRecDepth 20000 in
theorem check_calls : ∀ d, CHECK d := by
  intro d
  induction d using Dat.ind with
  | h k n t kids dot ih =>
    intro kv G over m wb bv w hs hG hwee ho hm hw
    simp only [Dat.kids] at hs
    obtain ⟨es, rfl, hseen, hn, hks⟩ := hs.inv
    obtain ⟨A, c, rfl⟩ := hseen.form
    rw [Dat.wee] at hwee
    rw [Dat.hgt] at ho
    rw [Dat.many] at hm
    by_cases hk5 : k = 5
    · subst hk5
      have hwp := halloc (wtr_set hw ((m : Int) + 1)) (.cells #[.int .u8 5, .int .i64 n, .string t, .slice A es.length c, .bool dot] 58)
      have hup : Upd (fun b => b = wb) w _ := (((Upd.refl (fun b => b = wb) w).set (b := wb) (i := 1) rfl (.int .i64 ((m : Int) + 1))).alloc (.cells #[.int .u8 5, .int .i64 n, .string t, .slice A es.length c, .bool dot] 58))
      obtain ⟨⟨c0, c1⟩, ⟨cf0, cf1⟩, hlt⟩ := wtr_cells hw
      have j1 : IntKind.i64.wrap ((m : Int) + 1) = (m : Int) + 1 := IntWalk.i64_in _ (by omega)
      have j2 : ¬ (65536 < (over : Int)) := by omega
      have hnI : (es.length : Int) ≤ 2000000 := by omega
      have hnJ : (0 : Int) ≤ es.length := by omega
      by_cases n0 : n = 0
      · subst n0
        by_cases t0 : t.size = 0
        · obtain rfl := size0 t0
          by_cases hd : dot = true ∧ (es.length < 2 ∨ ((es.map El.d).getLast?.map Dat.k) = some 5)
          · obtain ⟨rfl, hd⟩ := hd
            have MAY := Lib.hid (show mayD (.mk 5 0 ⟨#[]⟩ (es.map El.d) true) = false from by rw [mayD, if_neg (by decide), if_neg (by simp), if_neg (by decide), if_neg (fun h => h rfl), if_neg (by decide), if_neg (by simp), if_pos ⟨rfl, by simpa using hd⟩])
            have HUP := Lib.hid hup
            have HWP := Lib.hid hwp
            by_cases h2 : es.length < 2
            · have r0 : (es.length : Int) < 2 := by omega
              clear hd ih hs hseen hks hwee ho hm hw hup hwp hn
              unfold datV
              simp only [Dat.k, Dat.n, Dat.t, Dat.dot]
              cases hb : ((es.length : Int) == 0) with
              | true => (go_enter Try.func79, Try.ntmps79; go_wp2_with fail; refine bodyPost_ret (results_tmp2 rfl _ _ _) rfl ?_; exact leaf_bad MAY.out HUP.out HWP.out)
              | false => (go_enter Try.func79, Try.ntmps79; go_wp2_with fail; refine bodyPost_ret (results_tmp2 rfl _ _ _) rfl ?_; exact leaf_bad MAY.out HUP.out HWP.out)
            · have hl1 : es.length - 1 < es.length := by omega
              have hlast : (es[es.length - 1].d.k == 5) = true := by
                have h3 := hd.resolve_left h2
                simp only [List.getLast?_eq_getElem?, List.getElem?_map, List.length_map, List.getElem?_eq_getElem hl1, Option.map_some, Option.some.injEq] at h3
                simpa using h3
              have HS := Lib.hid hseen
              obtain ⟨g0, o0, cc0, hA0, hGg0, hltg0, z0, -, -, -, -⟩ := (HS.out.upd HUP.out (fun b hb e => hG (e ▸ hb))).at (es.length - 1) hl1
              simp only [Value.slice.injEq] at hA0
              obtain ⟨rfl, -, -⟩ := hA0
              have r0 : ¬ ((es.length : Int) < 2) := by omega
              have r1 : (0 : Int) ≤ (es.length : Int) - 1 := by omega
              have r2 : (es.length : Int) - 1 < es.length := by omega
              have r3 : IntKind.i64.wrap ((es.length : Int) - 1) = (es.length : Int) - 1 := IntWalk.i64_in _ (by omega)
              have r4 : ((es.length : Int) - 1).toNat = es.length - 1 := by omega
              generalize es[es.length - 1].d.k = lk at *
              clear hd ih hs hseen hks hwee ho hm hw hup hwp hn h2 hl1 HS
              unfold datV
              simp only [Dat.k, Dat.n, Dat.t, Dat.dot]
              cases hb : ((es.length : Int) == 0) with
              | true => (go_enter Try.func79, Try.ntmps79; go_wp2_with fail; refine bodyPost_ret (results_tmp2 rfl _ _ _) rfl ?_; exact leaf_bad MAY.out HUP.out HWP.out)
              | false => (go_enter Try.func79, Try.ntmps79; go_wp2_with fail; refine bodyPost_ret (results_tmp2 rfl _ _ _) rfl ?_; exact leaf_bad MAY.out HUP.out HWP.out)
          · have hmay : mayD (.mk 5 0 ⟨#[]⟩ (es.map El.d) dot) = mayL (es.map El.d) := by
              rw [mayD, if_neg (by decide), if_neg (by simp), if_neg (by decide), if_neg (fun h => h rfl), if_neg (by decide), if_neg (by simp), if_neg (by simpa using hd)]
            unfold datV
            simp only [Dat.k, Dat.n, Dat.t, Dat.dot]
            refine (check_loop es (fun e he => ih _ (List.mem_map.2 ⟨e, he, rfl⟩)) dot A c G over m wb bv w hseen hks hn hG hwee.2 (by omega) (by omega) hw (fun hdt => ?_)).mono ?_
            · subst hdt
              have h1 : ¬ es.length < 2 := fun h => hd ⟨rfl, .inl h⟩
              refine ⟨by omega, fun hl1 => ?_⟩
              have h2 : ¬ _ := fun h => hd ⟨rfl, .inr h⟩
              simp only [List.getLast?_eq_getElem?, List.getElem?_map, List.length_map, List.getElem?_eq_getElem hl1, Option.map_some, Option.some.injEq] at h2
              simpa using h2
            · rintro e w' ⟨hu, h⟩
              refine ⟨hu, ?_⟩
              rw [hmay, Dat.deep, if_pos rfl, Dat.many]
              rcases h with ⟨h1, h2, h3⟩ | h
              · exact .inl ⟨h1, h2, by rw [← Nat.add_assoc]; exact h3⟩
              · exact .inr h
        · have MAY := Lib.hid (show mayD (.mk 5 0 t (es.map El.d) dot) = false from by rw [mayD]; simp [t0])
          have t1 : t.toList.isEmpty = false := by rw [empty_iff]; simpa using t0
          have HUP := Lib.hid hup
          have HWP := Lib.hid hwp
          clear ih hs hseen hks hwee ho hm hw hup hwp hn t0
          unfold datV
          simp only [Dat.k, Dat.n, Dat.t, Dat.dot]
          cases hb : ((es.length : Int) == 0) with
          | true => (go_enter Try.func79, Try.ntmps79; go_wp2_with fail; refine bodyPost_ret (results_tmp2 rfl _ _ _) rfl ?_; exact leaf_bad MAY.out HUP.out HWP.out)
          | false => (go_enter Try.func79, Try.ntmps79; go_wp2_with fail; refine bodyPost_ret (results_tmp2 rfl _ _ _) rfl ?_; exact leaf_bad MAY.out HUP.out HWP.out)
      · have MAY := Lib.hid (show mayD (.mk 5 n t (es.map El.d) dot) = false from by rw [mayD]; simp [n0])
        have nb : (n != 0) = true := by simpa using n0
        have HUP := Lib.hid hup
        have HWP := Lib.hid hwp
        clear ih hs hseen hks hwee ho hm hw hup hwp hn n0
        unfold datV
        simp only [Dat.k, Dat.n, Dat.t, Dat.dot]
        cases hb : ((es.length : Int) == 0) with
        | true => (go_enter Try.func79, Try.ntmps79; go_wp2_with fail; refine bodyPost_ret (results_tmp2 rfl _ _ _) rfl ?_; exact leaf_bad MAY.out HUP.out HWP.out)
        | false => (go_enter Try.func79, Try.ntmps79; go_wp2_with fail; refine bodyPost_ret (results_tmp2 rfl _ _ _) rfl ?_; exact leaf_bad MAY.out HUP.out HWP.out)
    · exact check_leaf k n t es dot A c hk5 hn hwee.1 over m (by omega) (by omega) wb bv w hw
end Go.Proofs.Ytnnjhafjcdjobaa
