/- Read: Write. -/
import Derived.Test.YtnnjhafjcdjobaaWrR
import Derived.Lib.BufferRead
import Derived.Laws.IdiomStrings
namespace Go.Proofs.Ytnnjhafjcdjobaa
open Go.RowKit
set_option linter.unusedVariables false
set_option linter.unusedSimpArgs false

theorem preW_le (ts : List ByteArray) (j k : Nat) (h : j ≤ k) : (preW ts j).size ≤ (preW ts k).size := by
  induction k with
  | zero => have : j = 0 := by omega
            subst this; exact Nat.le_refl _
  | succ k ih =>
    rcases Nat.lt_or_ge j (k + 1) with h1 | h1
    · refine Nat.le_trans (ih (by omega)) ?_
      rw [preW, ByteArray.size_append, ByteArray.size_append]; omega
    · have : j = k + 1 := by omega
      subst this; exact Nat.le_refl _
theorem preW_a (ts : List ByteArray) (j : Nat) (t : ByteArray) (h : ts.getD j ⟨#[]⟩ = t) (hj : j = 0) : preW ts (j + 1) = preW ts j ++ t := by
  rw [preW, if_neg (by omega), h]
  exact ByteArray.ext (by simp)
theorem preW_b (ts : List ByteArray) (j : Nat) (t : ByteArray) (h : ts.getD j ⟨#[]⟩ = t) (hj : 0 < j) : preW ts (j + 1) = (preW ts j ++ ⟨#[10]⟩) ++ t := by
  rw [preW, if_pos hj, h]
def WritePost (l : List Dat) (w : World) (e : Ending) (w' : World) : Prop := e = .returned (.tuple #[.string (writeT l), .int .i64 (writeE l)]) ∧ New w w'
theorem write_no {l : List Dat} {w w' : World} {x : Int} (h : writeE l = x) (h0 : x ≠ 0) (hn : New w w') : WritePost l w (.returned (.tuple #[.string ⟨#[]⟩, .int .i64 x])) w' := by
  refine ⟨?_, hn⟩
  rw [writeT, h, if_neg h0]
theorem write_yes {l : List Dat} {w w' : World} (h : writeE l = 0) (hn : New w w') : WritePost l w (.returned (.tuple #[.string (textW l), .int .i64 0])) w' := by
  refine ⟨?_, hn⟩
  rw [writeT, h, if_pos rfl]
theorem write_end {l : List Dat} {w w' : World} {S : ByteArray} (hT : textW l = S) (h : writeE l = 0) (hn : New w w') : WritePost l w (.returned (.tuple #[.string S, .int .i64 0])) w' := by
  subst hT
  exact write_yes h hn
theorem strCells_len (s : ByteArray) : (Lib.strCells s).length = s.data.toList.length := by simp [Lib.strCells]
theorem row_bytes {w : World} {base g c : Nat} {s : ByteArray} (h : w.ownsRow base 5 1 (.slice (some ⟨g, 0, none⟩) s.size c) s.size (Lib.strCells s)) : ∀ j (hj : j < s.data.toList.length), w.cell? ((⟨g, 0, none⟩ : Addr).add j) = some (.int .u8 ((s.data.toList[j]).toNat : Int)) :=
  fun j hj => own_cells h j _ (by rw [Lib.strCells, List.getElem?_map, List.getElem?_eq_getElem hj]; rfl)
theorem own_nil {w : World} {base c : Nat} {s : ByteArray} (h : w.ownsRow base 5 1 (.slice none s.size c) s.size (Lib.strCells s)) : s = ⟨#[]⟩ ∧ c = 0 := by
  rcases h.2 with ⟨h1, h2⟩ | ⟨g, cap, cur, h1, _⟩
  · simp only [Value.slice.injEq, true_and] at h1
    exact ⟨ByteArray.size_eq_zero_iff.1 h1.1, h1.2⟩
  · simp at h1
theorem own_at0 {w : World} {base c : Nat} {A : Addr} {s : ByteArray} (h : w.ownsRow base 5 1 (.slice (some A) s.size c) s.size (Lib.strCells s)) : ∃ g, A = ⟨g, 0, none⟩ := by
  rcases h.2 with ⟨h1, h2⟩ | ⟨g, cap, cur, h1, _⟩
  · simp at h1
  · simp only [Value.slice.injEq, Option.some.injEq] at h1
    exact ⟨g, h1.1⟩
set_option maxHeartbeats 8000000 in
set_option maxRecDepth 20000 in
theorem write_es (es : List El) (A : Option Addr) (c : Nat) (G : Nat → Prop) (w : World) (hs : Seen w G (.slice A es.length c) es) (hks : ∀ e ∈ es, Sees w G e.kv e.d.kids) (hn : es.length ≤ 2000000) (hGb : ∀ b, G b → b < w.heap.size) (hwee : weeL (es.map El.d))
    (hh : hgtL (es.map El.d) ≤ 60000) (hm : manyL (es.map El.d) ≤ 1000000) :
    Calls Try.prog 23 #[.slice A es.length c] w (WritePost (es.map El.d) w) := by
  obtain ⟨i0, hi0, hz0, hz1, hz2⟩ := info_parts info5
  have hn1 : New w (w.alloc (.cells #[.slice none 0 0, .int .i64 0] 135)) := (Upd.refl (fun _ => False) w).alloc _
  have HS := Lib.hid (hs.new hn1)
  have HKS := Lib.hid (fun e he => (hks e he).new hn1)
  have HN1 := Lib.hid hn1
  have HWP := Lib.hid (show Wtr (w.alloc (.cells #[.slice none 0 0, .int .i64 0] 135)) w.heap.size (.slice none 0 0) 0 from heap_alloc_new w _)
  have HW := Lib.hid (weeL_mem hwee)
  have HGB := Lib.hid hGb
  have HH := Lib.hid (fun d hd => Nat.le_trans (hgtL_mem (l := es.map El.d) d hd) hh)
  have HM := Lib.hid hm
  have hG : ¬ G w.heap.size := fun h => by have := hGb _ h; omega
  have hnI : (es.length : Int) ≤ 2000000 := by omega
  have hnJ : (0 : Int) ≤ es.length := by omega
  clear hs hks hn1 hwee hh hm hGb hn
  go_enter Try.func23, Try.ntmps23
  go_wp2_with fail
  generalize hW1 : w.alloc (.cells #[.slice none 0 0, .int .i64 0] 135) = W1 at *
  have hz1' : W1.heap.size = w.heap.size + 1 := by rw [← hW1]; simp
  have HZ1 := Lib.hid hz1'
  clear hW1 hz1'
  go_loopw [5, 16] (fun dv i wr => ∃ j : Nat, j ≤ es.length ∧ i = .int .i64 j ∧ dv = .int .i64 (deepL ((es.map El.d).take j) : Nat) ∧ Upd (fun b => b = w.heap.size) W1 wr ∧ Wtr wr w.heap.size (.slice none 0 0) (manyL ((es.map El.d).take j) : Nat) ∧ mayL ((es.map El.d).take j) = true) (fun _ i _ => es.length - (intOf i).toNat)
  case atStart => exact ⟨0, Nat.zero_le _, rfl, by simp [deepL], Upd.refl _ _, by simpa [manyL, Wtr] using HWP.out, by simp [mayL]⟩
  case round =>
    obtain ⟨j, hj, rfl, rfl, hu, hwt, hmay⟩ := hrel
    have HU := Lib.hid hu
    have HWT := Lib.hid hwt
    have HMAY := Lib.hid hmay
    clear hu hwt hmay
    by_cases hjl : j < es.length
    · obtain ⟨g, o, cc, hA, hGg, hltg, x0, x1, x2, x3, x4⟩ := (HS.out.upd HU.out (fun b hb e => hG (e ▸ hb))).at j hjl
      simp only [Value.slice.injEq] at hA
      obtain ⟨rfl, -, -⟩ := hA
      have q0 : (0 : Int) ≤ j := by omega
      have q1 : (j : Int) < es.length := by omega
      have q2 : IntKind.i64.wrap ((j : Int) + 1) = (j : Int) + 1 := IntWalk.i64_in _ (by omega)
      have hmem := List.getElem_mem hjl
      have hkk := (HKS.out _ hmem).upd HU.out (fun b hb e => hG (e ▸ hb))
      obtain ⟨es3, hes3, hseen3, hn3, hks3⟩ := hkk.inv
      obtain ⟨A4, c4, hkv3⟩ := hseen3.form
      have hM2 := manyL_get es j hjl
      have hmem2 : es[j].d ∈ es.map El.d := List.mem_map.2 ⟨_, hmem, rfl⟩
      have hH2 := HH.out _ hmem2
      have hcall : ∀ w' (hx : New wr w'), Calls Try.prog 79 #[.pointer (some ⟨w.heap.size, 0, none⟩), datV es[j].d es[j].kv, .int .i64 ((0 : Nat) : Int)] w' (CheckPost es[j].d w' w.heap.size (.slice none 0 0) (manyL ((es.map El.d).take j))) := fun w' hx => check_calls es[j].d es[j].kv G 0 (manyL ((es.map El.d).take j)) w.heap.size (.slice none 0 0) w' (hkk.new hx) hG (HW.out _ hmem2) (by omega) (by have := HM.out; omega) (hx.heap HWT.out (fun x => x))
      have hstep : (es.map El.d).take (j + 1) = (es.map El.d).take j ++ [es[j].d] := take_succ_map es j hjl
      have HST := Lib.hid hstep
      have HM2 := Lib.hid hM2
      have HC := Lib.hid hcall
      generalize hV : es[j] = X at *
      obtain ⟨xd, xkv, xbs⟩ := X
      simp only at *
      subst hkv3
      clear hcall hstep hM2 hH2 hkk hes3 hseen3 hn3 hks3 hV hmem hmem2
      unfold datV at HC
      go_wp2_with fail
      refine (HC.out _ ((Upd.refl (fun _ => False) wr).alloc _)).mono ?_
      rintro e w3 ⟨hu3, h3⟩
      have HU3 := Lib.hid hu3
      have hsz3 := hu3.size
      simp only [World.size_alloc] at hsz3
      clear hu3
      rcases h3 with ⟨hm3, rfl, hw3⟩ | ⟨hm3, rfl, m3, hw3⟩
      · have HM3 := Lib.hid hm3
        have HW3 := Lib.hid hw3
        clear hm3 hw3
        go_wp2_with fail
        go_roundw
        case measure => simp [intOf]; omega
        case rel =>
          refine ⟨j + 1, by omega, by simp, ?_, HU.out.trans (((Upd.refl (fun b => b = w.heap.size) wr).alloc _).trans HU3.out), ?_, ?_⟩
          · rw [HST.out, deepL_append, deepL, deepL]; simp; omega
          · rw [HST.out, manyL_append, manyL, manyL]; exact (by have := HW3.out; simpa [Nat.add_assoc] using this)
          · rw [HST.out, mayL_append, HMAY.out, mayL, mayL, HM3.out]; rfl
      · have HM3 := Lib.hid hm3
        have HW3 := Lib.hid hw3
        clear hm3 hw3
        go_wp2_with fail
        refine bodyPost_ret (results_tmp2 rfl _ _ _) rfl (write_no ?_ (by decide) ?_)
        · rw [writeE, if_pos]
          exact mayL_false (List.mem_of_mem_take (i := j + 1) (by rw [HST.out]; simp)) HM3.out
        · exact HN1.out.trans' (HU.out.trans (((Upd.refl (fun b => b = w.heap.size) wr).alloc _).trans HU3.out)) (fun b hb e => by omega)
    · have q1 : ¬ (j : Int) < es.length := by omega
      have hje : j = es.length := by omega
      have htk : (es.map El.d).take j = es.map El.d := List.take_of_length_le (by simp; omega)
      rw [htk] at HMAY HWT ⊢
      have HMY := Lib.hid (show ¬ mayL (es.map El.d) = false by simp [HMAY.out])
      have HNW := Lib.hid (show New w wr from HN1.out.trans' HU.out (fun b hb e => by omega))
      obtain ⟨⟨c0, c1⟩, ⟨cf0, cf1⟩, hlt⟩ := wtr_cells HWT.out
      clear htk hje
      by_cases hd : 100 < deepL (es.map El.d)
      · have hdI : (100 : Int) < deepL (es.map El.d) := by omega
        have HD := Lib.hid hd
        clear hd
        go_wp2_with fail
        exact bodyPost_ret (results_tmp2 rfl _ _ _) rfl (write_no (by rw [writeE, if_neg HMY.out, if_pos HD.out]) (by decide) HNW.out)
      · have hdI : ¬ (100 : Int) < deepL (es.map El.d) := by omega
        have HD := Lib.hid hd
        clear hd
        by_cases hm : 10000 < manyL (es.map El.d)
        · have hmI : (10000 : Int) < manyL (es.map El.d) := by omega
          have HM5 := Lib.hid hm
          clear hm
          go_wp2_with fail
          exact bodyPost_ret (results_tmp2 rfl _ _ _) rfl (write_no (by rw [writeE, if_neg HMY.out, if_neg HD.out, if_pos HM5.out]) (by decide) HNW.out)
        · have hmI : ¬ (10000 : Int) < manyL (es.map El.d) := by omega
          have HM5 := Lib.hid hm
          clear hm
          generalize wr = w0 at *
          have HF0 : Hid (∀ q : Nat, ¬ ((Value.slice none 0 0).ownBlock = some q)) := Lib.hid (fun q e => by simp [Value.ownBlock] at e)
          have hsr := HS.out.upd HU.out (fun b hb e => hG (e ▸ hb))
          have HKR := Lib.hid (fun e he => (HKS.out e he).upd HU.out (fun b hb e => hG (e ▸ hb)))
          have HSR := Lib.hid hsr
          have HTX0 : Hid (Txt w0 w.heap.size w.heap.size (manyL (es.map El.d) : Nat) ⟨#[]⟩ (.slice none 0 0)) := Lib.hid ⟨HWT.out, ⟨rfl, .inl ⟨rfl, rfl⟩⟩, (by simp [Value.ownBlock])⟩
          have HFG : Hid (∀ q, G q → ¬ (q = w.heap.size ∨ (Value.slice none 0 0).ownBlock = some q)) := Lib.hid (fun q hq e => by
            rcases e with e | e
            · exact hG (e ▸ hq)
            · exact HF0.out q e)
          have HMM := Lib.hid (mayL_mem HMAY.out)
          have hwlt := HU.out.size
          have HWLT := Lib.hid (show w.heap.size + 1 ≤ w0.heap.size by have := HZ1.out; omega)
          clear hsr hwlt
          go_wp2_with fail
          clear c0 c1 cf0 cf1
          go_loopw [44] (fun i wr => ∃ j : Nat, j ≤ es.length ∧ i = .int .i64 j ∧ Sofar w0 w.heap.size w.heap.size (manyL (es.map El.d) : Nat) (preW ((es.map El.d).map txtD) j) (.slice none 0 0) wr ∧ (0 < j → (preW ((es.map El.d).map txtD) j).size ≤ 65536)) (fun i _ => es.length - (intOf i).toNat)
          case atStart => exact ⟨0, Nat.zero_le _, rfl, ⟨_, HTX0.out, Upd.refl _ _, .inl rfl⟩, by omega⟩
          case round =>
            obtain ⟨j, hj, rfl, hsf, hszp⟩ := hrel
            have HSZP := Lib.hid hszp
            clear hszp
            by_cases hjl : j < es.length
            · obtain ⟨v', htx, hu, hv⟩ := hsf
              obtain ⟨A5, c5, rfl⟩ := own_form htx.2.1
              obtain ⟨⟨y0, y1⟩, ⟨yf0, yf1⟩, ylt⟩ := wtr_cells htx.1
              obtain ⟨g, o, cc, hA, hGg, hltg, x0, x1, x2, x3, x4⟩ := (HSR.out.upd hu HFG.out).at j hjl
              simp only [Value.slice.injEq] at hA
              obtain ⟨rfl, -, -⟩ := hA
              have hmem := List.getElem_mem hjl
              have hkk := (HKR.out _ hmem).upd hu HFG.out
              obtain ⟨es3, hes3, hseen3, _⟩ := hkk.inv
              obtain ⟨A4, c4, hkv⟩ := hseen3.form
              have q0 : (0 : Int) ≤ j := by omega
              have q1 : (j : Int) < es.length := by omega
              have q2 : IntKind.i64.wrap ((j : Int) + 1) = (j : Int) + 1 := IntWalk.i64_in _ (by omega)
              have hxe : ∀ q, (Value.slice A5 (preW ((es.map El.d).map txtD) j).size c5).ownBlock = some q → q < wr.heap.size := fun q hq => (own_lt htx.2.1 q hq).2
              have hmem2 : es[j].d ∈ es.map El.d := List.mem_map.2 ⟨_, hmem, rfl⟩
              have HXE := Lib.hid hxe
              have HKK := Lib.hid hkk
              have HTX := Lib.hid htx
              have HUU := Lib.hid hu
              have HVV := Lib.hid hv
              have HWJ := Lib.hid (HW.out _ hmem2)
              have HMJ := Lib.hid (HMM.out _ hmem2)
              have HHJ := Lib.hid (HH.out _ hmem2)
              have HGT := Lib.hid (getD_txt es j hjl)
              have HPL := Lib.hid (preW_le ((es.map El.d).map txtD) (j + 1) es.length hjl)
              have HS0 : Hid (j = 0 → (preW ((es.map El.d).map txtD) j).size = 0) := Lib.hid (fun h => by subst h; rfl)
              have hbr : w.heap.size ≤ wr.heap.size := by omega
              have hbr1 : w.heap.size + 1 ≤ wr.heap.size := by have h1 := HWLT.out; have h2 := hu.size; omega
              generalize hV : es[j] = X at *
              obtain ⟨xd, xkv, xbs⟩ := X
              simp only at *
              subst hkv
              generalize hSJ : preW ((es.map El.d).map txtD) j = S at *
              have HSJ := Lib.hid hSJ
              clear hkk htx hu hv hmem hmem2 hes3 hseen3 hxe hV hSJ
              have hnb : New wr (wr.alloc (.cells #[.int .u8 xd.k, .int .i64 xd.n, .string xd.t, .slice A4 es3.length c4, .bool xd.dot] 58)) := (Upd.refl (fun _ => False) wr).alloc _
              have HKB5 := Lib.hid (heap_alloc_new wr (.cells #[.int .u8 xd.k, .int .i64 xd.n, .string xd.t, .slice A4 es3.length c4, .bool xd.dot] 58))
              have HNB := Lib.hid hnb
              have HX5 := Lib.hid (HTX.out.new hnb)
              have HK5 := Lib.hid (HKK.out.new hnb)
              have HW5 := Lib.hid (show Wrote w0 w.heap.size w.heap.size (manyL (es.map El.d) : Nat) S (.slice none 0 0) (wr.alloc (.cells #[.int .u8 xd.k, .int .i64 xd.n, .string xd.t, .slice A4 es3.length c4, .bool xd.dot] 58)) from ⟨_, HX5.out, HUU.out.trans (hnb.mono fun _ _ x => x.elim), HVV.out⟩)
              clear hnb
              by_cases hj0 : j = 0
              · have HJ0 := Lib.hid hj0
                have hjd : decide ((0 : Int) < (j : Int)) = false := decide_eq_false (by omega)
                have hjm : ¬ ((0 : Int) < (j : Int)) := by omega
                clear hj0
                go_upto_region 20 with (fail)
                clear hjd hjm
                have hS5 : S.size + 4 * xd.hgt ≤ 2000000 := by have h1 := HS0.out HJ0.out; have h2 := HHJ.out; omega
                generalize wr.alloc (.cells #[.int .u8 xd.k, .int .i64 xd.n, .string xd.t, .slice A4 es3.length c4, .bool xd.dot] 58) = W6 at *
                obtain ⟨v6, ht6, hu6, hv6⟩ := HW5.out
                have hcall := put_calls xd (.slice A4 es3.length c4) G w.heap.size w.heap.size (manyL (es.map El.d) : Nat) S v6 W6 HK5.out (fun q hq => by have h1 := hu6.size; have h2 := HWLT.out; have h3 := HGB.out q hq; omega) hG (fun q hq hg => by
                  rcases hv6 with e | e
                  · rw [e] at hq; exact HF0.out q hq
                  · have h1 := e q hq; have h2 := HGB.out q hg; have h3 := HWLT.out; omega) ht6 (by have h1 := hu6.size; have h2 := HWLT.out; omega) hS5 (by have := HHJ.out; omega) HWJ.out HMJ.out
                have HPE := Lib.hid (show preW ((es.map El.d).map txtD) (j + 1) = S ++ txtD xd from (by have h := preW_a ((es.map El.d).map txtD) j _ HGT.out HJ0.out; rw [HSJ.out] at h; exact h))
                obtain ⟨⟨k0, k1, k2, k3, k4⟩, kf⟩ := blk5 HKB5.out
                have HC := Lib.hid hcall
                have HU6 := Lib.hid hu6
                have HV6 := Lib.hid hv6
                clear hcall hu6 hv6 ht6 y0 y1 yf0 yf1 x0 x1 x2 x3 x4
                unfold datV at HC
                go_wp2_with fail
                refine HC.out.mono ?_
                rintro e w7 h
                have HP := Lib.hid h
                rcases h with ⟨q1', rfl, q2'⟩ | ⟨q1', rfl, q2'⟩
                · clear q1' q2'
                  go_wp2_with fail
                  go_roundw
                  case measure => simp [intOf]; omega
                  case rel =>
                    rcases HP.out with ⟨q1, _, q2⟩ | ⟨_, q3, _⟩
                    · have hfin := wrote_trans HU6.out HV6.out q2
                      rw [← HPE.out] at hfin
                      refine ⟨j + 1, by omega, by simp, hfin, fun _ => ?_⟩
                      rw [HPE.out, ByteArray.size_append]; exact q1
                    · cases q3
                · clear q1' q2'
                  go_wp2_with fail
                  rcases HP.out with ⟨_, q3, _⟩ | ⟨q1, _, q2⟩
                  · cases q3
                  · have h2 := upd_trans HU6.out HV6.out q2
                    refine bodyPost_ret (results_tmp2 rfl _ _ _) rfl (write_no ?_ (by decide) ?_)
                    · rw [writeE, if_neg HMY.out, if_neg HD.out, if_neg HM5.out, if_pos]
                      have h3 := HPL.out
                      rw [HPE.out, ByteArray.size_append] at h3
                      rw [textW, List.length_map]
                      omega
                    · exact HNW.out.trans' h2 (fun b hb e => by
                        rcases e with e | e | e
                        · omega
                        · exact HF0.out b e
                        · have := HWLT.out; omega)
              · have hjp : 0 < j := by omega
                have hjq : (0 : Int) < (j : Int) := by omega
                have hjd : decide ((0 : Int) < (j : Int)) = true := decide_eq_true hjq
                have HSS := Lib.hid (HSZP.out hjp)
                have M5 := Lib.hid (show S.size + 1 ≤ maxLen by have := HSS.out; unfold maxLen; omega)
                have M6 := Lib.hid (show (S.size + 1) * 1 ≤ 140737488355328 by have := HSS.out; omega)
                clear hj0
                go_upto_region 20 with (at_builtin; refine wpList_append_row ((wr.alloc (.cells #[.int .u8 xd.k, .int .i64 xd.n, .string xd.t, .slice A4 es3.length c4, .bool xd.dot] 58)).alloc (.cells #[.int .u8 10] 5)) (by rfl) (.tmp 55) (.tmp 56) 133 (by rfl) w.heap.size 5 i0 _ 1 1 Try.underlying133 hi0 hz0 hz1 hz2 rfl (by decide) (.slice A5 S.size c5) S.size (Lib.strCells S) (by rfl) (HX5.out.2.1.alloc (.cells #[.int .u8 10] 5)) (.slice (some ⟨wr.heap.size + 1, 0, none⟩) 1 1) 1 [.int .u8 10] (by rfl) (.inr ⟨wr.heap.size + 1, 1, rfl, rfl, World.news_of_block (alloc2 wr (.cells #[.int .u8 xd.k, .int .i64 xd.n, .string xd.t, .slice A4 es3.length c4, .bool xd.dot] 58) (.cells #[.int .u8 10] 5))⟩) (byte_one 10) M5.out M6.out (by simp; omega) ?_; intro v1 w4 ho4 hg4 hat4; obtain ⟨A3, c3, rfl⟩ := own_form ho4; have hwr := wrote_byte (c := 10) (.cells #[.int .u8 10] 5) HX5.out ho4 hg4 hat4; obtain ⟨⟨z0, z1⟩, ⟨zf0, zf1⟩, zlt⟩ := wtr_cells (wtr_grown (HX5.out.new ((Upd.refl (fun _ => False) (wr.alloc (.cells #[.int .u8 xd.k, .int .i64 xd.n, .string xd.t, .slice A4 es3.length c4, .bool xd.dot] 58))).alloc (.cells #[.int .u8 10] 5))) hg4); have hz9 := (wtr_cells (wtr_put (bv' := .slice A3 (S.size + 1) c3) (wtr_grown (HX5.out.new ((Upd.refl (fun _ => False) (wr.alloc (.cells #[.int .u8 xd.k, .int .i64 xd.n, .string xd.t, .slice A4 es3.length c4, .bool xd.dot] 58))).alloc (.cells #[.int .u8 10] 5))) hg4))).1.1; have HWR6 := Lib.hid hwr; clear ho4 hg4 hat4 hwr)
                have HS6 : Hid ((S ++ ⟨#[10]⟩).size = S.size + 1) := Lib.hid (by rw [ByteArray.size_append]; rfl)
                generalize w4.setCell ⟨w.heap.size, 0, none⟩ (.slice A3 (S.size + 1) c3) = W6 at *
                clear z0 z1 zf0 zf1 zlt hz9
                have HW6 := Lib.hid (wrote_trans (HUU.out.trans (HNB.out.mono fun _ _ x => x.elim)) HVV.out HWR6.out)
                obtain ⟨v9, _, hu9, _⟩ := HWR6.out
                have hnk : ¬ (wr.heap.size = w.heap.size ∨ (Value.slice A5 S.size c5).ownBlock = some wr.heap.size) := by
                  rintro (e | e)
                  · omega
                  · have := HXE.out _ e; omega
                have hng : ∀ q, G q → ¬ (q = w.heap.size ∨ (Value.slice A5 S.size c5).ownBlock = some q) := by
                  rintro q hq (e | e)
                  · exact hG (e ▸ hq)
                  · rcases HVV.out with e2 | e2
                    · rw [e2] at e; exact HF0.out q e
                    · have h1 := e2 q e; have h2 := HGB.out q hq; have h3 := HWLT.out; omega
                have HKB6 := Lib.hid (hu9.heap HKB5.out hnk)
                have HK6 := Lib.hid (HK5.out.upd hu9 hng)
                clear hu9 hnk hng
                have hS6 : (S ++ ⟨#[10]⟩).size + 4 * xd.hgt ≤ 2000000 := by rw [HS6.out]; have h1 := HSS.out; have h2 := HHJ.out; omega
                obtain ⟨v6, ht6, hu6, hv6⟩ := HW6.out
                have hcall := put_calls xd (.slice A4 es3.length c4) G w.heap.size w.heap.size (manyL (es.map El.d) : Nat) (S ++ ⟨#[10]⟩) v6 W6 HK6.out (fun q hq => by have h1 := hu6.size; have h2 := HWLT.out; have h3 := HGB.out q hq; omega) hG (fun q hq hg => by
                  rcases hv6 with e | e
                  · rw [e] at hq; exact HF0.out q hq
                  · have h1 := e q hq; have h2 := HGB.out q hg; have h3 := HWLT.out; omega) ht6 (by have h1 := hu6.size; have h2 := HWLT.out; omega) hS6 (by have := HHJ.out; omega) HWJ.out HMJ.out
                have HPE := Lib.hid (show preW ((es.map El.d).map txtD) (j + 1) = (S ++ ⟨#[10]⟩) ++ txtD xd from (by have h := preW_b ((es.map El.d).map txtD) j _ HGT.out hjp; rw [HSJ.out] at h; exact h))
                obtain ⟨⟨k0, k1, k2, k3, k4⟩, kf⟩ := blk5 HKB6.out
                have HC := Lib.hid hcall
                have HU6 := Lib.hid hu6
                have HV6 := Lib.hid hv6
                clear hcall hu6 hv6 ht6 y0 y1 yf0 yf1 x0 x1 x2 x3 x4
                unfold datV at HC
                go_wp2_with fail
                refine HC.out.mono ?_
                rintro e w7 h
                have HP := Lib.hid h
                rcases h with ⟨q1', rfl, q2'⟩ | ⟨q1', rfl, q2'⟩
                · clear q1' q2'
                  go_wp2_with fail
                  go_roundw
                  case measure => simp [intOf]; omega
                  case rel =>
                    rcases HP.out with ⟨q1, _, q2⟩ | ⟨_, q3, _⟩
                    · have hfin := wrote_trans HU6.out HV6.out q2
                      rw [← HPE.out] at hfin
                      refine ⟨j + 1, by omega, by simp, hfin, fun _ => ?_⟩
                      rw [HPE.out, ByteArray.size_append]; exact q1
                    · cases q3
                · clear q1' q2'
                  go_wp2_with fail
                  rcases HP.out with ⟨_, q3, _⟩ | ⟨q1, _, q2⟩
                  · cases q3
                  · have h2 := upd_trans HU6.out HV6.out q2
                    refine bodyPost_ret (results_tmp2 rfl _ _ _) rfl (write_no ?_ (by decide) ?_)
                    · rw [writeE, if_neg HMY.out, if_neg HD.out, if_neg HM5.out, if_pos]
                      have h3 := HPL.out
                      rw [HPE.out, ByteArray.size_append] at h3
                      rw [textW, List.length_map]
                      omega
                    · exact HNW.out.trans' h2 (fun b hb e => by
                        rcases e with e | e | e
                        · omega
                        · exact HF0.out b e
                        · have := HWLT.out; omega)
            · have q1 : ¬ (j : Int) < es.length := by omega
              have hje : j = es.length := by omega
              obtain ⟨v', htx, hu, hv⟩ := hsf
              have HTE := Lib.hid (show preW ((es.map El.d).map txtD) j = textW (es.map El.d) by rw [textW, List.length_map, hje])
              have HSZ : Hid ((textW (es.map El.d)).size ≤ 65536) := Lib.hid (by
                rw [← HTE.out]
                by_cases h0 : 0 < j
                · exact HSZP.out h0
                · have : j = 0 := by omega
                  subst this; exact Nat.zero_le _)
              have HFIN := Lib.hid (show New w wr from HNW.out.trans' hu (fun b hb e => by
                rcases e with e | e
                · omega
                · exact HF0.out b e))
              rw [HTE.out] at htx
              have HE : Hid (writeE (es.map El.d) = 0) := Lib.hid (by rw [writeE, if_neg HMY.out, if_neg HD.out, if_neg HM5.out, if_neg (by have := HSZ.out; omega)])
              generalize hTW : textW (es.map El.d) = S at *
              have HTW := Lib.hid hTW
              clear hTW
              obtain ⟨A5, c5, rfl⟩ := own_form htx.2.1
              obtain ⟨⟨y0, y1⟩, ⟨yf0, yf1⟩, ylt⟩ := wtr_cells htx.1
              cases A5 with
              | none =>
                obtain ⟨rfl, rfl⟩ := own_nil htx.2.1
                have hconv := Lib.run_convert_nil_bytes (P := Try.prog) wr 133 9 5 0 Try.underlying133 Try.underlying5 Try.underlying9
                clear htx hu hv hje
                go_wp2_with fail
                refine bodyPost_ret (results_tmp2 rfl _ _ _) rfl ?_
                exact write_end HTW.out HE.out HFIN.out
              | some A5 =>
                obtain ⟨g5, rfl⟩ := own_at0 htx.2.1
                have hconv := run_convert_bytes_back (P := Try.prog) wr 133 9 5 ⟨g5, 0, none⟩ c5 S.data.toList Try.underlying133 Try.underlying5 Try.underlying9 (row_bytes htx.2.1)
                rw [← Lib.size_eq, show (⟨S.data.toList.toArray⟩ : ByteArray) = S from ByteArray.ext (by simp)] at hconv
                clear htx hu hv hje
                go_wp2_with fail
                refine bodyPost_ret (results_tmp2 rfl _ _ _) rfl ?_
                exact write_end HTW.out HE.out HFIN.out
/-- What Write answers. -/
theorem write_calls (l : List Dat) (v : Value) (G : Nat → Prop) (w : World) (hs : Sees w G v l) (hGb : ∀ b, G b → b < w.heap.size) (hwee : weeL l) (hh : hgtL l ≤ 60000) (hm : manyL l ≤ 1000000) : Calls Try.prog 23 #[v] w (WritePost l w) := by
  obtain ⟨es, rfl, hseen, hn, hks⟩ := hs.inv
  obtain ⟨A, c, rfl⟩ := hseen.form
  exact write_es es A c G w hseen hks hn hGb hwee hh hm
end Go.Proofs.Ytnnjhafjcdjobaa
