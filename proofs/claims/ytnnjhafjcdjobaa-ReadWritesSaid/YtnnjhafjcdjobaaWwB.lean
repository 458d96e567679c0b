/- Read: the reference's writing: is it a datum? -/
import Derived.Test.YtnnjhafjcdjobaaWwA
namespace Go.Proofs.Ytnnjhafjcdjobaa
open Go.RowKit
set_option linter.unusedVariables false
set_option linter.unusedSimpArgs false

set_option maxHeartbeats 8000000 in
set_option maxRecDepth 20000 in
theorem Rmay_calls : ∀ (d : Dat) (kv : Value) (w : World), Sees w All kv d.kids → d.wee → Calls Try.prog 74 #[datV d kv] w fun e w' => e = .returned (.bool (mayD d)) ∧ New w w' := by
  intro d
  induction d using Dat.ind with
  | h k n t kids dot ih =>
    intro kv w hs hw
    simp only [Dat.kids] at hs
    obtain ⟨es, rfl, hseen, hn, hks⟩ := hs.inv
    obtain ⟨A, c, rfl⟩ := hseen.form
    unfold datV
    simp only [Dat.k, Dat.n, Dat.t, Dat.dot]
    have hbx := heap_alloc_new w (.cells #[.int .u8 k, .int .i64 n, .string t, .slice A es.length c, .bool dot] 58)
    have hup : New w (w.alloc (.cells #[.int .u8 k, .int .i64 n, .string t, .slice A es.length c, .bool dot] 58)) := (Upd.refl (fun _ => False) w).alloc _
    obtain ⟨⟨a0, a1, a2, a3, a4⟩, af⟩ := blk5 hbx
    have HN := Lib.hid hup
    have HB := Lib.hid hbx
    have HS := Lib.hid (hseen.new hup)
    have HK := Lib.hid (fun e he => (hks e he).new hup)
    have HIH := Lib.hid ih
    have hnI : (es.length : Int) ≤ 2000000 := by omega
    rw [Dat.wee] at hw
    have hnI : (es.length : Int) ≤ 2000000 := by omega
    clear hs hseen hks ih hbx hup hn
    by_cases h5 : k = 5
    · subst h5
      have HW := Lib.hid (weeL_mem hw.2)
      clear hw
      by_cases n0 : n = 0
      · subst n0
        by_cases t0 : t.size = 0
        · have t1 : t.toList.isEmpty = true := by rw [empty_iff]; simpa using t0
          have htt : t = ⟨#[]⟩ := ByteArray.size_eq_zero_iff.1 t0
          have HTT := Lib.hid htt
          clear t0 htt
          generalize hMD : mayD (.mk 5 0 t (es.map El.d) dot) = MD
          have HMD := Lib.hid hMD
          clear hMD
          go_enter Try.func74, Try.ntmps74
          go_wp2_with fail
          generalize w.alloc (.cells #[.int .u8 5, .int .i64 0, .string t, .slice A es.length c, .bool dot] 58) = W at *
          clear a0 a1 a2 a3 a4 af
          go_loopw [3] (fun i wr => New W wr ∧ ∃ j : Nat, j ≤ es.length ∧ i = .int .i64 j ∧ mayL ((es.map El.d).take j) = true) (fun i _ => es.length - (intOf i).toNat)
          case atStart => exact ⟨Upd.refl (fun _ => False) W, 0, Nat.zero_le _, rfl, by simp [mayL]⟩
          case round =>
            obtain ⟨hn, j, hj, rfl, hml⟩ := hrel
            have HN2 := Lib.hid hn
            have HML := Lib.hid hml
            obtain ⟨⟨a0, a1, a2, a3, a4⟩, af⟩ := blk5 (hn.heap HB.out (fun x => x))
            clear hn hml
            by_cases hjl : j < es.length
            · have j0 : (0 : Int) ≤ j := by omega
              have j1 : (j : Int) < es.length := by omega
              have j3 : IntKind.i64.wrap ((j : Int) + 1) = (j : Int) + 1 := IntWalk.i64_in _ (by omega)
              obtain ⟨g, o, cc, hA, hG, hlt, x0, x1, x2, x3, x4⟩ := (HS.out.new HN2.out).at j hjl
              simp only [Value.slice.injEq] at hA
              obtain ⟨rfl, -, -⟩ := hA
              have hmem := List.getElem_mem hjl
              have hkk := (HK.out _ hmem).new HN2.out
              obtain ⟨es3, hes3, hseen3, -⟩ := hkk.inv
              obtain ⟨A4, c4, hkv⟩ := hseen3.form
              have hmem2 : es[j].d ∈ es.map El.d := List.mem_map.2 ⟨_, hmem, rfl⟩
              have hcall := fun w' (hh : New wr w') => HIH.out es[j].d hmem2 es[j].kv w' (hkk.new hh) (HW.out _ hmem2)
              have hstep : (es.map El.d).take (j + 1) = (es.map El.d).take j ++ [es[j].d] := take_succ_map es j hjl
              have HST := Lib.hid hstep
              have HC := Lib.hid hcall
              generalize hV : es[j] = X at *
              obtain ⟨xd, xkv, xbs⟩ := X
              simp only at *
              subst hkv
              clear hkk hes3 hseen3 hcall hstep hmem hmem2 hV
              unfold datV at HC
              generalize hMX : mayD xd = MX at *
              have HMX := Lib.hid hMX
              clear hMX
              cases MX with
              | true =>
                go_wp2_with fail
                refine (HC.out _ (Upd.refl _ _)).mono ?_
                rintro e w5 ⟨rfl, hu5⟩
                have HU5 := Lib.hid hu5
                clear hu5
                go_wp2_with fail
                go_roundw
                case measure => simp [intOf]; omega
                case rel =>
                  refine ⟨HN2.out.trans HU5.out, j + 1, by omega, by simp, ?_⟩
                  rw [HST.out, mayL_append, HML.out, mayL, mayL, HMX.out]; rfl
              | false =>
                go_wp2_with fail
                refine (HC.out _ (Upd.refl _ _)).mono ?_
                rintro e w5 ⟨rfl, hu5⟩
                have HU5 := Lib.hid hu5
                clear hu5
                go_wp2_with fail
                go_ret
                refine ⟨?_, HN.out.trans (HN2.out.trans HU5.out)⟩
                rw [← HMD.out]
                have hmf : mayL (es.map El.d) = false := mayL_false (List.mem_of_mem_take (i := j + 1) (by rw [HST.out]; simp)) HMX.out
                rw [HTT.out, mayD]; simp [hmf]
            · have j1 : ¬ (j : Int) < es.length := by omega
              have htk : (es.map El.d).take j = es.map El.d := List.take_of_length_le (by simp; omega)
              rw [htk] at HML
              clear htk
              cases dot with
              | false =>
                have hmd : MD = true := by rw [← HMD.out, HTT.out, mayD]; simp [HML.out]; rfl
                subst hmd
                go_wp2_with fail
                go_ret
                exact ⟨rfl, HN.out.trans HN2.out⟩
              | true =>
                by_cases h2 : es.length < 2
                · have h2I : (es.length : Int) < 2 := by omega
                  have h2J : ¬ (2 : Int) ≤ es.length := by omega
                  have hmd : MD = false := by rw [← HMD.out, HTT.out, mayD]; simp [h2]
                  subst hmd
                  clear h2
                  go_wp2_with fail
                  go_ret
                  exact ⟨rfl, HN.out.trans HN2.out⟩
                · have h2J : (2 : Int) ≤ es.length := by omega
                  have hl1 : es.length - 1 < es.length := by omega
                  obtain ⟨g0, o0, cc0, hA0, -, -, z0, -, -, -, -⟩ := (HS.out.new HN2.out).at (es.length - 1) hl1
                  simp only [Value.slice.injEq] at hA0
                  obtain ⟨rfl, -, -⟩ := hA0
                  have r1 : (0 : Int) ≤ (es.length : Int) - 1 := by omega
                  have r2 : (es.length : Int) - 1 < es.length := by omega
                  have r3 : IntKind.i64.wrap ((es.length : Int) - 1) = (es.length : Int) - 1 := IntWalk.i64_in _ (by omega)
                  have r4 : ((es.length : Int) - 1).toNat = es.length - 1 := by omega
                  have hlast : (es.map El.d).getLast?.map Dat.k = some (es[es.length - 1].d.k) := by
                    rw [List.getLast?_eq_getElem?, List.length_map, List.getElem?_map, List.getElem?_eq_getElem hl1]; rfl
                  obtain ⟨lk, hlk⟩ : ∃ lk, es[es.length - 1].d.k = lk := ⟨_, rfl⟩
                  rw [hlk] at z0 hlast
                  have hmd : MD = (lk != 5) := by
                    rw [← HMD.out, HTT.out, mayD]
                    simp only [show ¬ ((5 : Int) = 1) by decide, show ¬ ((5 : Int) = 2) by decide, show ¬ ((5 : Int) = 3 ∨ (5 : Int) = 4) by decide, if_false, ne_eq, not_true_eq_false, ByteArray.size_empty, hlast, List.length_map, Option.some.injEq, true_and]
                    have hz : ¬ ((⟨#[]⟩ : ByteArray).size ≠ 0) := by decide
                    rw [if_neg hz]
                    by_cases hk : lk = 5
                    · rw [if_pos (.inr hk), hk]; rfl
                    · rw [if_neg (fun h => by rcases h with h | h; exact h2 h; exact hk h), HML.out]; simpa using hk
                  subst hmd
                  clear hlast hlk h2 hl1
                  go_wp2_with fail
                  go_ret
                  exact ⟨rfl, HN.out.trans HN2.out⟩
        · have t1 : t.toList.isEmpty = false := by rw [empty_iff]; simpa using t0
          have MAY : mayD (.mk 5 0 t (es.map El.d) dot) = false := by rw [mayD]; simp [t0]
          rw [MAY]
          clear MAY t0
          go_enter Try.func74, Try.ntmps74
          go_wp2_with fail
          go_ret
          exact ⟨rfl, HN.out⟩
      · have nb : (n != 0) = true := by simpa using n0
        have MAY : mayD (.mk 5 n t (es.map El.d) dot) = false := by rw [mayD]; simp [n0]
        rw [MAY]
        clear MAY n0
        go_enter Try.func74, Try.ntmps74
        go_wp2_with fail
        go_ret
        exact ⟨rfl, HN.out⟩
    · clear HIH HK HS
      by_cases k1 : k = 1
      · subst k1
        by_cases t0 : t.size = 0
        · have t1 : t.toList.isEmpty = true := by rw [empty_iff]; simpa using t0
          by_cases hl : es.length = 0
          · have he : es = [] := List.eq_nil_of_length_eq_zero hl
            subst he
            clear hl
            simp only [List.length_nil, List.map_nil] at *
            cases dot with
            | true =>
              have MAY : mayD (.mk 1 n t (([] : List Dat)) true) = false := by rw [mayD]; simp [t0]
              rw [MAY]
              clear MAY
              clear t0
              go_enter Try.func74, Try.ntmps74
              go_wp2_with fail
              go_ret
              exact ⟨rfl, HN.out⟩
            | false =>
              by_cases n1 : n < -576460752303423488
              · have n3 : ¬ (-576460752303423488 ≤ n) := by omega
                have MAY : mayD (.mk 1 n t (([] : List Dat)) false) = false := by rw [mayD]; simp [t0, n3]
                rw [MAY]
                clear MAY
                clear t0
                go_enter Try.func74, Try.ntmps74
                go_wp2_with fail
                go_ret
                exact ⟨rfl, HN.out⟩
              · have n3 : -576460752303423488 ≤ n := by omega
                by_cases n2 : n < 576460752303423488
                · have MAY : mayD (.mk 1 n t (([] : List Dat)) false) = true := by rw [mayD]; simp [t0, n3, n2]
                  rw [MAY]
                  clear MAY
                  clear t0
                  go_enter Try.func74, Try.ntmps74
                  go_wp2_with fail
                  go_ret
                  exact ⟨rfl, HN.out⟩
                · have MAY : mayD (.mk 1 n t (([] : List Dat)) false) = false := by rw [mayD]; simp [t0, n2]
                  rw [MAY]
                  clear MAY
                  clear t0
                  go_enter Try.func74, Try.ntmps74
                  go_wp2_with fail
                  go_ret
                  exact ⟨rfl, HN.out⟩
          · have hl0 : (0 : Int) < es.length := by omega
            have hl2 : 0 < es.length := by omega
            have hl3 : decide (0 < es.length) = true := decide_eq_true hl2
            have hl1 : (es.map El.d).isEmpty = false := by cases es with | nil => exact absurd rfl hl | cons _ _ => rfl
            have MAY : mayD (.mk 1 n t (es.map El.d) dot) = false := by rw [mayD]; simp [t0, hl1]
            rw [MAY]
            clear MAY
            clear hl hl1 t0
            go_enter Try.func74, Try.ntmps74
            go_wp2_with fail
            go_ret
            exact ⟨rfl, HN.out⟩
        · have t1 : t.toList.isEmpty = false := by rw [empty_iff]; simpa using t0
          have MAY : mayD (.mk 1 n t (es.map El.d) dot) = false := by rw [mayD]; simp [t0]
          rw [MAY]
          clear MAY
          clear t0
          go_enter Try.func74, Try.ntmps74
          go_wp2_with fail
          go_ret
          exact ⟨rfl, HN.out⟩
      · have kb1 : (k == 1) = false := by simpa using k1
        have kc1 : (k != 1) = true := by simpa using k1
        by_cases k2 : k = 2
        · subst k2
          by_cases n0 : n = 0
          · subst n0
            by_cases hl : es.length = 0
            · have he : es = [] := List.eq_nil_of_length_eq_zero hl
              subst he
              clear hl
              simp only [List.length_nil, List.map_nil] at *
              cases dot with
              | true =>
                have MAY : mayD (.mk 2 0 t (([] : List Dat)) true) = false := by rw [mayD]; simp
                rw [MAY]
                clear MAY
                go_enter Try.func74, Try.ntmps74
                go_wp2_with fail
                go_ret
                exact ⟨rfl, HN.out⟩
              | false =>
                have MAY : mayD (.mk 2 0 t (([] : List Dat)) false) = symB t := by rw [mayD]; simp
                rw [MAY]
                clear MAY
                have HSY := Lib.hid (RisSymbol_calls t hw.1)
                generalize symB t = sy at *
                clear hw
                go_enter Try.func74, Try.ntmps74
                go_wp2_with fail
                refine (HSY.out _).mono ?_
                rintro e w3 ⟨rfl, hu3⟩
                have HU3 := Lib.hid (HN.out.trans hu3)
                clear hu3
                go_wp2_with fail
                go_ret
                exact ⟨rfl, HU3.out⟩
            · have hl0 : (0 : Int) < es.length := by omega
              have hl2 : 0 < es.length := by omega
              have hl3 : decide (0 < es.length) = true := decide_eq_true hl2
              have hl1 : (es.map El.d).isEmpty = false := by cases es with | nil => exact absurd rfl hl | cons _ _ => rfl
              have MAY : mayD (.mk 2 0 t (es.map El.d) dot) = false := by rw [mayD]; simp [hl1]
              rw [MAY]
              clear MAY
              clear hl hl1
              go_enter Try.func74, Try.ntmps74
              go_wp2_with fail
              go_ret
              exact ⟨rfl, HN.out⟩
          · have nb : (n != 0) = true := by simpa using n0
            have MAY : mayD (.mk 2 n t (es.map El.d) dot) = false := by rw [mayD]; simp [n0]
            rw [MAY]
            clear MAY
            clear n0
            go_enter Try.func74, Try.ntmps74
            go_wp2_with fail
            go_ret
            exact ⟨rfl, HN.out⟩
        · have kb2 : (k == 2) = false := by simpa using k2
          have kc2 : (k != 2) = true := by simpa using k2
          by_cases k3 : k = 3
          · subst k3
            by_cases n0 : n = 0
            · subst n0
              by_cases t0 : t.size = 0
              · have t1 : t.toList.isEmpty = true := by rw [empty_iff]; simpa using t0
                by_cases hl : es.length = 0
                · have he : es = [] := List.eq_nil_of_length_eq_zero hl
                  subst he
                  clear hl
                  simp only [List.length_nil, List.map_nil] at *
                  cases dot with
                  | true =>
                    have MAY : mayD (.mk 3 0 t (([] : List Dat)) true) = false := by rw [mayD]; simp [t0]
                    rw [MAY]
                    clear MAY
                    clear t0
                    go_enter Try.func74, Try.ntmps74
                    go_wp2_with fail
                    go_ret
                    exact ⟨rfl, HN.out⟩
                  | false =>
                    have MAY : mayD (.mk 3 0 t (([] : List Dat)) false) = true := by rw [mayD]; simp [t0]
                    rw [MAY]
                    clear MAY
                    clear t0
                    go_enter Try.func74, Try.ntmps74
                    go_wp2_with fail
                    go_ret
                    exact ⟨rfl, HN.out⟩
                · have hl0 : (0 : Int) < es.length := by omega
                  have hl2 : 0 < es.length := by omega
                  have hl3 : decide (0 < es.length) = true := decide_eq_true hl2
                  have hl1 : (es.map El.d).isEmpty = false := by cases es with | nil => exact absurd rfl hl | cons _ _ => rfl
                  have MAY : mayD (.mk 3 0 t (es.map El.d) dot) = false := by rw [mayD]; simp [t0, hl1]
                  rw [MAY]
                  clear MAY
                  clear hl hl1 t0
                  go_enter Try.func74, Try.ntmps74
                  go_wp2_with fail
                  go_ret
                  exact ⟨rfl, HN.out⟩
              · have t1 : t.toList.isEmpty = false := by rw [empty_iff]; simpa using t0
                have MAY : mayD (.mk 3 0 t (es.map El.d) dot) = false := by rw [mayD]; simp [t0]
                rw [MAY]
                clear MAY
                clear t0
                go_enter Try.func74, Try.ntmps74
                go_wp2_with fail
                go_ret
                exact ⟨rfl, HN.out⟩
            · have nb : (n != 0) = true := by simpa using n0
              have MAY : mayD (.mk 3 n t (es.map El.d) dot) = false := by rw [mayD]; simp [n0]
              rw [MAY]
              clear MAY
              clear n0
              go_enter Try.func74, Try.ntmps74
              go_wp2_with fail
              go_ret
              exact ⟨rfl, HN.out⟩
          · have kb3 : (k == 3) = false := by simpa using k3
            have kc3 : (k != 3) = true := by simpa using k3
            by_cases k4 : k = 4
            · subst k4
              by_cases n0 : n = 0
              · subst n0
                by_cases t0 : t.size = 0
                · have t1 : t.toList.isEmpty = true := by rw [empty_iff]; simpa using t0
                  by_cases hl : es.length = 0
                  · have he : es = [] := List.eq_nil_of_length_eq_zero hl
                    subst he
                    clear hl
                    simp only [List.length_nil, List.map_nil] at *
                    cases dot with
                    | true =>
                      have MAY : mayD (.mk 4 0 t (([] : List Dat)) true) = false := by rw [mayD]; simp [t0]
                      rw [MAY]
                      clear MAY
                      clear t0
                      go_enter Try.func74, Try.ntmps74
                      go_wp2_with fail
                      go_ret
                      exact ⟨rfl, HN.out⟩
                    | false =>
                      have MAY : mayD (.mk 4 0 t (([] : List Dat)) false) = true := by rw [mayD]; simp [t0]
                      rw [MAY]
                      clear MAY
                      clear t0
                      go_enter Try.func74, Try.ntmps74
                      go_wp2_with fail
                      go_ret
                      exact ⟨rfl, HN.out⟩
                  · have hl0 : (0 : Int) < es.length := by omega
                    have hl2 : 0 < es.length := by omega
                    have hl3 : decide (0 < es.length) = true := decide_eq_true hl2
                    have hl1 : (es.map El.d).isEmpty = false := by cases es with | nil => exact absurd rfl hl | cons _ _ => rfl
                    have MAY : mayD (.mk 4 0 t (es.map El.d) dot) = false := by rw [mayD]; simp [t0, hl1]
                    rw [MAY]
                    clear MAY
                    clear hl hl1 t0
                    go_enter Try.func74, Try.ntmps74
                    go_wp2_with fail
                    go_ret
                    exact ⟨rfl, HN.out⟩
                · have t1 : t.toList.isEmpty = false := by rw [empty_iff]; simpa using t0
                  have MAY : mayD (.mk 4 0 t (es.map El.d) dot) = false := by rw [mayD]; simp [t0]
                  rw [MAY]
                  clear MAY
                  clear t0
                  go_enter Try.func74, Try.ntmps74
                  go_wp2_with fail
                  go_ret
                  exact ⟨rfl, HN.out⟩
              · have nb : (n != 0) = true := by simpa using n0
                have MAY : mayD (.mk 4 n t (es.map El.d) dot) = false := by rw [mayD]; simp [n0]
                rw [MAY]
                clear MAY
                clear n0
                go_enter Try.func74, Try.ntmps74
                go_wp2_with fail
                go_ret
                exact ⟨rfl, HN.out⟩
            · have kb4 : (k == 4) = false := by simpa using k4
              have kc4 : (k != 4) = true := by simpa using k4
              have kb5 : (k == 5) = false := by simpa using h5
              have kc5 : (k != 5) = true := by simpa using h5
              by_cases n0 : n = 0
              · subst n0
                by_cases t0 : t.size = 0
                · have t1 : t.toList.isEmpty = true := by rw [empty_iff]; simpa using t0
                  by_cases hl : es.length = 0
                  · have he : es = [] := List.eq_nil_of_length_eq_zero hl
                    subst he
                    clear hl
                    simp only [List.length_nil, List.map_nil] at *
                    cases dot with
                    | true =>
                      have MAY : mayD (.mk k 0 t (([] : List Dat)) true) = false := by rw [mayD]; simp [k1, k2, k3, k4, h5, t0]
                      rw [MAY]
                      clear MAY
                      clear t0
                      go_enter Try.func74, Try.ntmps74
                      go_wp2_with fail
                      go_ret
                      exact ⟨rfl, HN.out⟩
                    | false =>
                      have MAY : mayD (.mk k 0 t (([] : List Dat)) false) = false := by rw [mayD]; simp [k1, k2, k3, k4, h5, t0]
                      rw [MAY]
                      clear MAY
                      clear t0
                      go_enter Try.func74, Try.ntmps74
                      go_wp2_with fail
                      go_ret
                      exact ⟨rfl, HN.out⟩
                  · have hl0 : (0 : Int) < es.length := by omega
                    have hl2 : 0 < es.length := by omega
                    have hl3 : decide (0 < es.length) = true := decide_eq_true hl2
                    have hl1 : (es.map El.d).isEmpty = false := by cases es with | nil => exact absurd rfl hl | cons _ _ => rfl
                    have MAY : mayD (.mk k 0 t (es.map El.d) dot) = false := by rw [mayD]; simp [k1, k2, k3, k4, h5, t0, hl1]
                    rw [MAY]
                    clear MAY
                    clear hl hl1 t0
                    go_enter Try.func74, Try.ntmps74
                    go_wp2_with fail
                    go_ret
                    exact ⟨rfl, HN.out⟩
                · have t1 : t.toList.isEmpty = false := by rw [empty_iff]; simpa using t0
                  have MAY : mayD (.mk k 0 t (es.map El.d) dot) = false := by rw [mayD]; simp [k1, k2, k3, k4, h5, t0]
                  rw [MAY]
                  clear MAY
                  clear t0
                  go_enter Try.func74, Try.ntmps74
                  go_wp2_with fail
                  go_ret
                  exact ⟨rfl, HN.out⟩
              · have nb : (n != 0) = true := by simpa using n0
                have MAY : mayD (.mk k n t (es.map El.d) dot) = false := by rw [mayD]; simp [k1, k2, k3, k4, h5, n0]
                rw [MAY]
                clear MAY
                clear n0
                go_enter Try.func74, Try.ntmps74
                go_wp2_with fail
                go_ret
                exact ⟨rfl, HN.out⟩
end Go.Proofs.Ytnnjhafjcdjobaa
