/- Read: the reference's Write. -/
import Derived.Test.YtnnjhafjcdjobaaWwC
namespace Go.Proofs.Ytnnjhafjcdjobaa
open Go.RowKit
set_option linter.unusedVariables false
set_option linter.unusedSimpArgs false

theorem preW_size (l : List Dat) (h : ∀ d ∈ l, (txtD d).size + 3 ≤ 28 * d.wgt) : ∀ j, j ≤ l.length → (preW (l.map txtD) j).size ≤ 28 * wgtL (l.take j) := by
  intro j
  induction j with
  | zero => intro _; exact Nat.zero_le _
  | succ j ih =>
    intro hj
    have h1 := ih (by omega)
    have hlt : j < l.length := by omega
    have hg : (l.map txtD).getD j ⟨#[]⟩ = txtD l[j] := by
      rw [List.getD_eq_getElem?_getD, List.getElem?_map, List.getElem?_eq_getElem hlt]; rfl
    have h2 := h l[j] (List.getElem_mem hlt)
    have h3 : l.take (j + 1) = l.take j ++ [l[j]] := by rw [List.take_add_one]; simp [List.getElem?_eq_getElem hlt]
    have e1 : (⟨#[10]⟩ : ByteArray).size = 1 := rfl
    have e0 : (⟨#[]⟩ : ByteArray).size = 0 := rfl
    rw [preW, hg, h3, wgtL_append, wgtL, wgtL]
    simp only [ByteArray.size_append]
    split <;> omega
theorem deepL_mem {l : List Dat} : ∀ d ∈ l, d.deep ≤ deepL l := by
  induction l with
  | nil => intro d hd; simp at hd
  | cons x l ih =>
    intro d hd
    rw [deepL]
    rcases List.mem_cons.1 hd with rfl | hd
    · omega
    · have := ih d hd; omega
set_option maxHeartbeats 8000000 in
set_option maxRecDepth 20000 in
theorem Rwrite_es (es : List El) (A : Option Addr) (c : Nat) (w : World) (hseen : Seen w All (.slice A es.length c) es) (hks : ∀ e ∈ es, Sees w All e.kv e.d.kids) (hn : es.length ≤ 2000000) (hwee : weeL (es.map El.d)) (hh : hgtL (es.map El.d) ≤ 60000) (hwg : wgtL (es.map El.d) ≤ 200000) :
    Calls Try.prog 21 #[.slice A es.length c] w (WritePost (es.map El.d) w) := by
  have HS := Lib.hid hseen
  have HK := Lib.hid hks
  have HW := Lib.hid (weeL_mem hwee)
  have HH := Lib.hid (fun d hd => Nat.le_trans (hgtL_mem (l := es.map El.d) d hd) hh)
  have HWG := Lib.hid hwg
  have hnI : (es.length : Int) ≤ 2000000 := by omega
  have hnJ : (0 : Int) ≤ es.length := by omega
  clear hseen hks hn hwee hh hwg
  go_enter Try.func21, Try.ntmps21
  go_wp2_with fail
  go_loopw [4] (fun i wr => New w wr ∧ ∃ j : Nat, j ≤ es.length ∧ i = .int .i64 j ∧ mayL ((es.map El.d).take j) = true) (fun i _ => es.length - (intOf i).toNat)
  case atStart => exact ⟨Upd.refl (fun _ => False) w, 0, Nat.zero_le _, rfl, by simp [mayL]⟩
  case round =>
    obtain ⟨hn, j, hj, rfl, hml⟩ := hrel
    have HN2 := Lib.hid hn
    have HML := Lib.hid hml
    clear hn hml
    by_cases hjl : j < es.length
    · have j0 : (0 : Int) ≤ j := by omega
      have j1 : (j : Int) < es.length := by omega
      have j3 : IntKind.i64.wrap ((j : Int) + 1) = (j : Int) + 1 := IntWalk.i64_in _ (by omega)
      obtain ⟨g, o, cc, hA, hG, hlt, x0, x1, x2, x3, x4⟩ := (HS.out.new HN2.out).at j hjl
      simp only [Value.slice.injEq] at hA
      obtain ⟨rfl, -, -⟩ := hA
      have hmem := List.getElem_mem hjl
      have hkk := (HK.out _ hmem).new HN2.out
      obtain ⟨es3, hes3, hseen3, -⟩ := hkk.inv
      obtain ⟨A4, c4, hkv⟩ := hseen3.form
      have hmem2 : es[j].d ∈ es.map El.d := List.mem_map.2 ⟨_, hmem, rfl⟩
      have hstep : (es.map El.d).take (j + 1) = (es.map El.d).take j ++ [es[j].d] := take_succ_map es j hjl
      have HST := Lib.hid hstep
      have HC := Lib.hid (fun w' (hx : New wr w') => Rmay_calls es[j].d es[j].kv w' (hkk.new hx) (HW.out _ hmem2))
      generalize hV : es[j] = X at *
      obtain ⟨xd, xkv, xbs⟩ := X
      simp only at *
      subst hkv
      clear hkk hes3 hseen3 hstep hmem hmem2 hV
      generalize hMX : mayD xd = MX at *
      have HMX := Lib.hid hMX
      clear hMX
      unfold datV at HC
      cases MX with
      | true =>
        go_wp2_with fail
        refine (HC.out _ (Upd.refl _ _)).mono ?_
        rintro e w5 ⟨rfl, hu5⟩
        have HU5 := Lib.hid hu5
        clear hu5
        go_wp2_with fail
        go_roundw
        case measure => simp [intOf]; omega
        case rel =>
          refine ⟨HN2.out.trans HU5.out, j + 1, by omega, by simp, ?_⟩
          rw [HST.out, mayL_append, HML.out, mayL, mayL, HMX.out]; rfl
      | false =>
        go_wp2_with fail
        refine (HC.out _ (Upd.refl _ _)).mono ?_
        rintro e w5 ⟨rfl, hu5⟩
        have HU5 := Lib.hid hu5
        clear hu5
        go_wp2_with fail
        refine bodyPost_ret (results_tmp2 rfl _ _ _) rfl (write_no ?_ (by decide) (HN2.out.trans HU5.out))
        rw [writeE, if_pos]
        exact mayL_false (List.mem_of_mem_take (i := j + 1) (by rw [HST.out]; simp)) HMX.out
    · have j1 : ¬ (j : Int) < es.length := by omega
      have htk : (es.map El.d).take j = es.map El.d := List.take_of_length_le (by simp; omega)
      rw [htk] at HML
      have HMY := Lib.hid (show ¬ mayL (es.map El.d) = false by simp [HML.out])
      have HMM := Lib.hid (mayL_mem HML.out)
      clear htk
      generalize wr = w0 at *
      go_wp2_with fail
      go_loopw [6, 7] (fun mv i wr => New w wr ∧ ∃ j : Nat, j ≤ es.length ∧ i = .int .i64 j ∧ mv = .int .i64 (manyL ((es.map El.d).take j) : Nat) ∧ deepL ((es.map El.d).take j) ≤ 100) (fun _ i _ => es.length - (intOf i).toNat)
      case atStart => exact ⟨HN2.out, 0, Nat.zero_le _, rfl, by simp [manyL], by simp [deepL]⟩
      case round =>
        clear HN2
        rename_i wr j' hj' hjl'
        obtain ⟨hn, j, hj, rfl, rfl, hdp⟩ := hrel
        have HN2 := Lib.hid hn
        have HDP := Lib.hid hdp
        clear hn hdp
        by_cases hjl : j < es.length
        · have j0 : (0 : Int) ≤ j := by omega
          have j1 : (j : Int) < es.length := by omega
          have j3 : IntKind.i64.wrap ((j : Int) + 1) = (j : Int) + 1 := IntWalk.i64_in _ (by omega)
          obtain ⟨g, o, cc, hA, hG, hlt, x0, x1, x2, x3, x4⟩ := (HS.out.new HN2.out).at j hjl
          simp only [Value.slice.injEq] at hA
          obtain ⟨rfl, -, -⟩ := hA
          have hmem := List.getElem_mem hjl
          have hkk := (HK.out _ hmem).new HN2.out
          obtain ⟨es3, hes3, hseen3, -⟩ := hkk.inv
          obtain ⟨A4, c4, hkv⟩ := hseen3.form
          have hmem2 : es[j].d ∈ es.map El.d := List.mem_map.2 ⟨_, hmem, rfl⟩
          have hstep : (es.map El.d).take (j + 1) = (es.map El.d).take j ++ [es[j].d] := take_succ_map es j hjl
          have HST := Lib.hid hstep
          have hdh := HH.out _ hmem2
          have hmg := manyL_get es j hjl
          have hmw := manyL_wgt (es.map El.d)
          have hwgo := HWG.out
          have HC1 := Lib.hid (fun w' (hx : New wr w') => Rdeep_calls es[j].d es[j].kv w' (hkk.new hx) hdh)
          have HC2 := Lib.hid (fun w' (hx : New wr w') => Rmany_calls es[j].d es[j].kv w' (hkk.new hx) (by omega))
          have hdd : es[j].d.deep ≤ 60000 := Nat.le_trans (deep_le_hgt _) hdh
          have HDM := Lib.hid (deepL_mem es[j].d hmem2)
          have hbd : (manyL ((es.map El.d).take j) : Int) + es[j].d.many ≤ 1000000 := by omega
          generalize hV : es[j] = X at *
          obtain ⟨xd, xkv, xbs⟩ := X
          simp only at *
          subst hkv
          clear hkk hes3 hseen3 hstep hmem hmem2 hV hdh hmg hmw hwgo
          generalize hMM : manyL ((es.map El.d).take j) = M at *
          generalize hQQ : xd.many = Q at *
          generalize hDD : xd.deep = DD at *
          have HMQ := Lib.hid hMM
          have HQQ := Lib.hid hQQ
          have HDD := Lib.hid hDD
          clear hMM hQQ hDD
          have hwr : IntKind.i64.wrap ((M : Int) + Q) = (M : Int) + Q := IntWalk.i64_in _ (by omega)
          unfold datV at HC1 HC2
          by_cases hbig : 100 < DD
          · have b1 : (100 : Int) < DD := by omega
            have b2 : decide (100 < DD) = true := decide_eq_true hbig
            have HBG := Lib.hid hbig
            clear hbig
            go_wp2_with fail
            refine (HC1.out _ (Upd.refl _ _)).mono ?_
            rintro e w5 ⟨rfl, hu5⟩
            have HU5 := Lib.hid hu5
            clear hu5
            go_wp2_with fail
            refine bodyPost_ret (results_tmp2 rfl _ _ _) rfl (write_no ?_ (by decide) (HN2.out.trans HU5.out))
            rw [writeE, if_neg HMY.out, if_pos (by have h1 := HDM.out; have h2 := HDD.out; have h3 := HBG.out; omega)]
          · have b1 : ¬ (100 : Int) < DD := by omega
            have b2 : decide (100 < DD) = false := decide_eq_false hbig
            have HBG := Lib.hid hbig
            clear hbig
            go_wp2_with fail
            refine (HC1.out _ (Upd.refl _ _)).mono ?_
            rintro e w5 ⟨rfl, hu5⟩
            have HU5 := Lib.hid hu5
            have y0 := hu5.cell x0 (fun x => x)
            have y1 := hu5.cell x1 (fun x => x)
            have y2 := hu5.cell x2 (fun x => x)
            have y3 := hu5.cell x3 (fun x => x)
            have y4 := hu5.cell x4 (fun x => x)
            clear hu5 x0 x1 x2 x3 x4
            go_wp2_with fail
            refine (HC2.out _ HU5.out).mono ?_
            rintro e w6 ⟨rfl, hu6⟩
            have HU6 := Lib.hid (HU5.out.trans hu6)
            clear hu6
            go_wp2_with fail
            go_roundw
            case measure => simp [intOf]; omega
            case rel =>
              refine ⟨HN2.out.trans HU6.out, j + 1, by omega, by simp, ?_, ?_⟩
              · rw [HST.out, manyL_append, manyL, manyL, HMQ.out, HQQ.out]; simp
              · rw [HST.out, deepL_append, deepL, deepL, HDD.out]; have h1 := HDP.out; have h2 := HBG.out; omega
        · have j1 : ¬ (j : Int) < es.length := by omega
          have htk : (es.map El.d).take j = es.map El.d := List.take_of_length_le (by simp; omega)
          rw [htk] at HDP ⊢
          clear htk
          have HD := Lib.hid (show ¬ 100 < deepL (es.map El.d) by have := HDP.out; omega)
          by_cases hm : 10000 < manyL (es.map El.d)
          · have b1 : (10000 : Int) < manyL (es.map El.d) := by omega
            have b2 : decide (10000 < manyL (es.map El.d)) = true := decide_eq_true hm
            have HM5 := Lib.hid hm
            clear hm
            go_wp2_with fail
            exact bodyPost_ret (results_tmp2 rfl _ _ _) rfl (write_no (by rw [writeE, if_neg HMY.out, if_neg HD.out, if_pos HM5.out]) (by decide) HN2.out)
          · have b1 : ¬ (10000 : Int) < manyL (es.map El.d) := by omega
            have b2 : decide (10000 < manyL (es.map El.d)) = false := decide_eq_false hm
            have HM5 := Lib.hid hm
            clear hm
            have HPS := Lib.hid (fun j hj => Nat.le_trans (preW_size (es.map El.d) (fun d hd => txt_size d (HMM.out d hd)) j hj) (Nat.mul_le_mul_left 28 (wgtL_take (es.map El.d) j)))
            generalize wr = w1 at *
            go_wp2_with fail
            go_loopw [8, 9] (fun sv i wr => New w wr ∧ ∃ j : Nat, j ≤ es.length ∧ i = .int .i64 j ∧ sv = .string (preW ((es.map El.d).map txtD) j)) (fun _ i _ => es.length - (intOf i).toNat)
            case atStart => exact ⟨HN2.out, 0, Nat.zero_le _, rfl, rfl⟩
            case round =>
              clear HN2
              rename_i wr j'' hj'' hjl''
              obtain ⟨hn, j, hj, rfl, rfl⟩ := hrel
              have HN2 := Lib.hid hn
              clear hn
              have hSz : ((preW ((es.map El.d).map txtD) j).size : Int) ≤ 6000000 := by
                have h1 := HPS.out j (by rw [List.length_map]; exact hj)
                have h2 := HWG.out
                omega
              have q10 : (⟨#[10]⟩ : ByteArray).size = 1 := rfl
              by_cases hjl : j < es.length
              · have j0 : (0 : Int) ≤ j := by omega
                have j1 : (j : Int) < es.length := by omega
                have j3 : IntKind.i64.wrap ((j : Int) + 1) = (j : Int) + 1 := IntWalk.i64_in _ (by omega)
                obtain ⟨g, o, cc, hA, hG, hlt, x0, x1, x2, x3, x4⟩ := (HS.out.new HN2.out).at j hjl
                simp only [Value.slice.injEq] at hA
                obtain ⟨rfl, -, -⟩ := hA
                have hmem := List.getElem_mem hjl
                have hkk := (HK.out _ hmem).new HN2.out
                obtain ⟨es3, hes3, hseen3, -⟩ := hkk.inv
                obtain ⟨A4, c4, hkv⟩ := hseen3.form
                have hmem2 : es[j].d ∈ es.map El.d := List.mem_map.2 ⟨_, hmem, rfl⟩
                have hstep : (es.map El.d).take (j + 1) = (es.map El.d).take j ++ [es[j].d] := take_succ_map es j hjl
                have HST := Lib.hid hstep
                have hwk : es[j].d.wgt ≤ 200000 := Nat.le_trans (wgtL_mem _ hmem2) HWG.out
                have hcall := fun w' (hh : New wr w') => Rtext_calls es[j].d es[j].kv w' (hkk.new hh) (HMM.out _ hmem2) hwk
                have hts := txt_size es[j].d (HMM.out _ hmem2)
                have HGT := Lib.hid (getD_txt es j hjl)
                have HC := Lib.hid hcall
                generalize hV : es[j] = X at *
                obtain ⟨xd, xkv, xbs⟩ := X
                simp only at *
                subst hkv
                clear hkk hes3 hseen3 hstep hmem hmem2 hV hcall
                have htz : ((txtD xd).size : Int) ≤ 6000000 := by omega
                generalize hTX : txtD xd = TX at *
                clear hTX hts hwk
                unfold datV at HC
                by_cases hj0 : j = 0
                · have HPE := Lib.hid (preW_a ((es.map El.d).map txtD) j _ HGT.out hj0)
                  have hjd : decide ((0 : Int) < (j : Int)) = false := decide_eq_false (by omega)
                  have hjm : ¬ ((0 : Int) < (j : Int)) := by omega
                  clear hj0
                  generalize preW ((es.map El.d).map txtD) j = S at *
                  go_wp2_with fail
                  refine (HC.out _ (Upd.refl _ _)).mono ?_
                  rintro e w5 ⟨rfl, hu5⟩
                  have HU5 := Lib.hid hu5
                  clear hu5
                  go_wp2_with fail
                  go_roundw
                  case measure => simp [intOf]; omega
                  case rel => exact ⟨HN2.out.trans HU5.out, j + 1, by omega, by simp, by rw [HPE.out]⟩
                · have hjp : 0 < j := by omega
                  have HPE := Lib.hid (preW_b ((es.map El.d).map txtD) j _ HGT.out hjp)
                  have hjq : (0 : Int) < (j : Int) := by omega
                  have hjd : decide ((0 : Int) < (j : Int)) = true := decide_eq_true hjq
                  clear hj0
                  generalize preW ((es.map El.d).map txtD) j = S at *
                  go_wp2_with fail
                  refine (HC.out _ (Upd.refl _ _)).mono ?_
                  rintro e w5 ⟨rfl, hu5⟩
                  have HU5 := Lib.hid hu5
                  clear hu5
                  go_wp2_with fail
                  go_roundw
                  case measure => simp [intOf]; omega
                  case rel => exact ⟨HN2.out.trans HU5.out, j + 1, by omega, by simp, by rw [HPE.out]⟩
              · have j1 : ¬ (j : Int) < es.length := by omega
                have hje : j = es.length := by omega
                have HTE := Lib.hid (show textW (es.map El.d) = preW ((es.map El.d).map txtD) j by rw [textW, List.length_map, hje])
                clear hje
                generalize preW ((es.map El.d).map txtD) j = S at *
                by_cases hbig : 65536 < S.size
                · have b1 : (65536 : Int) < S.size := by omega
                  have b2 : decide ((65536 : Int) < (S.size : Int)) = true := decide_eq_true b1
                  have HBG := Lib.hid hbig
                  clear hbig
                  go_wp2_with fail
                  exact bodyPost_ret (results_tmp2 rfl _ _ _) rfl (write_no (by rw [writeE, if_neg HMY.out, if_neg HD.out, if_neg HM5.out, HTE.out, if_pos HBG.out]) (by decide) HN2.out)
                · have b1 : ¬ (65536 : Int) < S.size := by omega
                  have b2 : decide ((65536 : Int) < (S.size : Int)) = false := decide_eq_false b1
                  have HBG := Lib.hid hbig
                  clear hbig
                  go_wp2_with fail
                  refine bodyPost_ret (results_tmp2 rfl _ _ _) rfl ?_
                  exact write_end HTE.out (by rw [writeE, if_neg HMY.out, if_neg HD.out, if_neg HM5.out, HTE.out, if_neg HBG.out]) HN2.out
/-- What the reference's Write answers. -/
theorem Rwrite_calls (l : List Dat) (v : Value) (w : World) (hs : Sees w All v l) (hwee : weeL l) (hh : hgtL l ≤ 60000) (hwg : wgtL l ≤ 200000) : Calls Try.prog 21 #[v] w (WritePost l w) := by
  obtain ⟨es, rfl, hseen, hn, hks⟩ := hs.inv
  obtain ⟨A, c, rfl⟩ := hseen.form
  exact Rwrite_es es A c w hseen hks hn hwee hh hwg
end Go.Proofs.Ytnnjhafjcdjobaa
