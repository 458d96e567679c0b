/- Read: check. -/
import Derived.Test.YtnnjhafjcdjobaaWrD
namespace Go.Proofs.Ytnnjhafjcdjobaa
open Go.RowKit
set_option linter.unusedVariables false
set_option linter.unusedSimpArgs false

theorem manyL_append (l l2 : List Dat) : manyL (l ++ l2) = manyL l + manyL l2 := by
  induction l with
  | nil => simp [manyL]
  | cons d l ih => simp only [List.cons_append, manyL, ih]; omega
theorem deepL_append (l l2 : List Dat) : deepL (l ++ l2) = max (deepL l) (deepL l2) := by
  induction l with
  | nil => simp [deepL]
  | cons d l ih => simp only [List.cons_append, deepL, ih]; omega
theorem mayL_append (l l2 : List Dat) : mayL (l ++ l2) = (mayL l && mayL l2) := by
  induction l with
  | nil => simp [mayL]
  | cons d l ih => simp only [List.cons_append, mayL, ih, Bool.and_assoc]
theorem hgtL_mem {l : List Dat} : ∀ d ∈ l, d.hgt ≤ hgtL l := by
  induction l with
  | nil => intro d hd; simp at hd
  | cons x l ih =>
    intro d hd
    rw [hgtL]
    rcases List.mem_cons.1 hd with rfl | hd
    · omega
    · have := ih d hd; omega
theorem deep_le_hgt : ∀ d : Dat, d.deep ≤ d.hgt := by
  intro d
  induction d using Dat.ind with
  | h k n t kids dot ih =>
    rw [Dat.deep, Dat.hgt]
    have h2 : deepL kids ≤ hgtL kids := by
      induction kids with
      | nil => simp [deepL, hgtL]
      | cons x l ih2 =>
        rw [deepL, hgtL]
        have := ih x (by simp)
        have := ih2 (fun d hd => ih d (List.mem_cons_of_mem _ hd))
        omega
    split <;> omega
theorem take_succ_map (es : List El) (j : Nat) (h : j < es.length) : (es.map El.d).take (j + 1) = (es.map El.d).take j ++ [es[j].d] := by
  rw [List.take_add_one]; simp [List.getElem?_eq_getElem h]
theorem manyL_take (es : List El) (j : Nat) : manyL ((es.map El.d).take j) ≤ manyL (es.map El.d) := by
  conv => rhs; rw [← List.take_append_drop j (es.map El.d)]
  rw [manyL_append]; omega
theorem manyL_get (es : List El) (j : Nat) (h : j < es.length) : manyL ((es.map El.d).take j) + es[j].d.many ≤ manyL (es.map El.d) := by
  have := manyL_take es (j + 1)
  rw [take_succ_map es j h, manyL_append, manyL, manyL] at this
  omega
theorem mayL_mem {l : List Dat} (h : mayL l = true) : ∀ d ∈ l, mayD d = true := by
  induction l with
  | nil => intro d hd; simp at hd
  | cons x l ih =>
    rw [mayL, Bool.and_eq_true] at h
    intro d hd
    rcases List.mem_cons.1 hd with rfl | hd
    · exact h.1
    · exact ih h.2 d hd
theorem mayL_false {l : List Dat} {d : Dat} (hd : d ∈ l) (h : mayD d = false) : mayL l = false := by
  cases hm : mayL l with
  | false => rfl
  | true => rw [mayL_mem hm d hd] at h; cases h
def CHECK (d : Dat) : Prop := ∀ (kv : Value) (G : Nat → Prop) (over m wb : Nat) (bv : Value) (w : World), Sees w G kv d.kids → ¬ G wb → d.wee → over + d.hgt ≤ 65536 → m + d.many ≤ 1000000000 → Wtr w wb bv m →
  Calls Try.prog 79 #[.pointer (some ⟨wb, 0, none⟩), datV d kv, .int .i64 over] w (CheckPost d w wb bv m)
set_option maxHeartbeats 4000000 in
set_option maxRecDepth 20000 in
theorem check_loop (es : List El) (ih : ∀ e ∈ es, CHECK e.d) (dot : Bool) (A : Option Addr) (c : Nat) (G : Nat → Prop) (over m wb : Nat) (bv : Value) (w : World) (hs : Seen w G (.slice A es.length c) es) (hks : ∀ e ∈ es, Sees w G e.kv e.d.kids) (hn : es.length ≤ 2000000) (hG : ¬ G wb) (hwee : weeL (es.map El.d))
    (ho : over + hgtL (es.map El.d) + 1 ≤ 65536) (hm : m + 1 + manyL (es.map El.d) ≤ 1000000000) (hw : Wtr w wb bv m) (hdot : dot = true → 2 ≤ es.length ∧ ∀ h : es.length - 1 < es.length, (es[es.length - 1].d.k == 5) = false) :
    Calls Try.prog 79 #[.pointer (some ⟨wb, 0, none⟩), .agg #[.int .u8 5, .int .i64 0, .string ⟨#[]⟩, .slice A es.length c, .bool dot], .int .i64 over] w fun e w' =>
      Upd (fun b => b = wb) w w' ∧ ((mayL (es.map El.d) = true ∧ e = .returned (.tuple #[.int .i64 (deepL (es.map El.d) + 1 : Nat), .int .i64 0]) ∧ Wtr w' wb bv (m + 1 + manyL (es.map El.d) : Nat)) ∨ (mayL (es.map El.d) = false ∧ e = .returned (.tuple #[.int .i64 0, .int .i64 60]) ∧ ∃ m', Wtr w' wb bv m')) := by
  obtain ⟨⟨c0, c1⟩, ⟨cf0, cf1⟩, hlt⟩ := wtr_cells hw
  have j1 : IntKind.i64.wrap ((m : Int) + 1) = (m : Int) + 1 := IntWalk.i64_in _ (by omega)
  have j2 : ¬ (65536 < (over : Int)) := by omega
  have j4 : IntKind.i64.wrap ((over : Int) + 1) = (over : Int) + 1 := IntWalk.i64_in _ (by omega)
  have hwp := halloc (wtr_set hw ((m : Int) + 1)) (.cells #[.int .u8 5, .int .i64 0, .string ⟨#[]⟩, .slice A es.length c, .bool dot] 58)
  have hup : Upd (fun b => b = wb) w _ := (((Upd.refl (fun b => b = wb) w).set (b := wb) (i := 1) rfl (.int .i64 ((m : Int) + 1))).alloc (.cells #[.int .u8 5, .int .i64 0, .string ⟨#[]⟩, .slice A es.length c, .bool dot] 58))
  have HIH := Lib.hid ih
  have HS := Lib.hid hs
  have HKS := Lib.hid hks
  have HWEE := Lib.hid (weeL_mem hwee)
  have HO := Lib.hid ho
  have HM := Lib.hid hm
  have HN := Lib.hid hn
  have HWP := Lib.hid hwp
  have HUP := Lib.hid hup
  have hnI : (es.length : Int) ≤ 2000000 := by omega
  have hnJ : (0 : Int) ≤ es.length := by omega
  go_enter Try.func79, Try.ntmps79
  by_cases hl : es.length = 0
  · have hb : ((es.length : Int) == 0) = true := by simpa using hl
    obtain rfl : dot = false := by
      cases dot with
      | false => rfl
      | true => have := (hdot rfl).1; omega
    clear ih hs hks hwee ho hm hn hwp hup hw hdot hl
    go_upto_region 25 with (fail)
    go_wp2_with fail
    generalize (w.setCell ⟨wb, 1, none⟩ (.int .i64 ((m : Int) + 1))).alloc (.cells #[.int .u8 5, .int .i64 0, .string ⟨#[]⟩, .slice A es.length c, .bool false] 58) = W at *
    clear c0 c1 cf0 cf1
    go_loopw [9, 112] (fun dv i wr => ∃ j : Nat, j ≤ es.length ∧ i = .int .i64 j ∧ dv = .int .i64 (deepL ((es.map El.d).take j) : Nat) ∧ Upd (fun b => b = wb) w wr ∧ Wtr wr wb bv (m + 1 + manyL ((es.map El.d).take j) : Nat) ∧ mayL ((es.map El.d).take j) = true) (fun _ i _ => es.length - (intOf i).toNat)
    case atStart => exact ⟨0, Nat.zero_le _, rfl, by simp [deepL], HUP.out, by simpa [manyL, Wtr] using HWP.out, by simp [mayL]⟩
    case round =>
      obtain ⟨j, hj, rfl, rfl, hu, hwt, hmay⟩ := hrel
      have HU := Lib.hid hu
      have HWT := Lib.hid hwt
      have HMAY := Lib.hid hmay
      clear hu hwt hmay
      by_cases hjl : j < es.length
      · have hsn := (HS.out.upd HU.out (fun b hb e => hG (e ▸ hb))).at j hjl
        obtain ⟨g, o, cc, hA, hGg, hltg, x0, x1, x2, x3, x4⟩ := hsn
        simp only [Value.slice.injEq] at hA
        obtain ⟨rfl, -, -⟩ := hA
        have q0 : (0 : Int) ≤ j := by omega
        have q1 : (j : Int) < es.length := by omega
        have q2 : IntKind.i64.wrap ((j : Int) + 1) = (j : Int) + 1 := IntWalk.i64_in _ (by omega)
        have hmem := List.getElem_mem hjl
        have hkk := (HKS.out _ hmem).upd HU.out (fun b hb e => hG (e ▸ hb))
        have hform := hkk.inv
        obtain ⟨es3, hes3, hseen3, hn3, hks3⟩ := hform
        obtain ⟨A3, c3, hkv3⟩ := hseen3.form
        have hM2 := manyL_get es j hjl
        have hH2 := hgtL_mem es[j].d (List.mem_map.2 ⟨_, hmem, rfl⟩)
        have hcall : ∀ w' (hh : New wr w'), Calls Try.prog 79 #[.pointer (some ⟨wb, 0, none⟩), datV es[j].d es[j].kv, .int .i64 ((over : Int) + 1)] w' (CheckPost es[j].d w' wb bv (m + 1 + manyL ((es.map El.d).take j))) := fun w' (hh : New wr w') => HIH.out _ hmem es[j].kv G (over + 1) (m + 1 + manyL ((es.map El.d).take j)) wb bv w' (hkk.new hh) hG (HWEE.out _ (List.mem_map.2 ⟨_, hmem, rfl⟩)) (by have := HO.out; omega) (by have := HM.out; omega) (hh.heap HWT.out (fun x => x))
        have hstep : (es.map El.d).take (j + 1) = (es.map El.d).take j ++ [es[j].d] := take_succ_map es j hjl
        have HST := Lib.hid hstep
        have HM2 := Lib.hid hM2
        have HC := Lib.hid hcall
        have hdd : es[j].d.deep ≤ 70000 := by have := deep_le_hgt es[j].d; have := HO.out; omega
        have HDD := Lib.hid hdd
        generalize hV : es[j] = X at *
        obtain ⟨xd, xkv, xbs⟩ := X
        simp only at *
        subst hkv3
        clear hcall hstep hM2 hH2 hkk hes3 hseen3 hn3 hks3 hV hmem hdd
        unfold datV at HC
        go_wp2_with fail
        refine (HC.out _ ((Upd.refl (fun _ => False) wr).alloc _)).mono ?_
        rintro e w3 ⟨hu3, h3⟩
        have HU3 := Lib.hid hu3
        have hsz3 := hu3.size
        simp only [World.size_alloc] at hsz3
        clear hu3
        rcases h3 with ⟨hm3, rfl, hw3⟩ | ⟨hm3, rfl, m3, hw3⟩
        · have HM3 := Lib.hid hm3
          have HW3 := Lib.hid hw3
          clear hm3 hw3
          go_wp2_with fail
          go_roundw
          case measure => simp [intOf]; omega
          case rel =>
            refine ⟨j + 1, by omega, by simp, ?_, HU.out.trans (((Upd.refl (fun b => b = wb) wr).alloc _).trans HU3.out), ?_, ?_⟩
            · rw [HST.out, deepL_append, deepL, deepL]; simp; omega
            · rw [HST.out, manyL_append, manyL, manyL]; exact (by have := HW3.out; simpa [Nat.add_assoc] using this)
            · rw [HST.out, mayL_append, HMAY.out, mayL, mayL, HM3.out]; rfl
        · have HM3 := Lib.hid hm3
          have HW3 := Lib.hid hw3
          clear hm3 hw3
          go_wp2_with fail
          refine bodyPost_ret (results_tmp2 rfl _ _ _) rfl ⟨HU.out.trans (((Upd.refl (fun b => b = wb) wr).alloc _).trans HU3.out), .inr ⟨?_, rfl, _, HW3.out⟩⟩
          exact mayL_false (List.mem_of_mem_take (i := j + 1) (by rw [HST.out]; simp)) HM3.out
      · have q1 : ¬ (j : Int) < es.length := by omega
        have hje : j = es.length := by omega
        have htk : (es.map El.d).take j = es.map El.d := List.take_of_length_le (by simp; omega)
        have HTK := Lib.hid htk
        have hdd : (deepL (es.map El.d) : Int) ≤ 70000 := by
          have h1 := deep_le_hgt (.mk 5 0 ⟨#[]⟩ (es.map El.d) false)
          rw [Dat.deep, Dat.hgt, if_pos rfl] at h1
          have := HO.out; omega
        have hd0 : (0 : Int) ≤ deepL (es.map El.d) := by omega
        have q3 : IntKind.i64.wrap ((deepL (es.map El.d) : Int) + 1) = (deepL (es.map El.d) : Int) + 1 := IntWalk.i64_in _ (by omega)
        rw [htk] at HMAY HWT ⊢
        clear htk hje
        go_wp2_with fail
        exact bodyPost_ret (results_tmp2 rfl _ _ _) rfl ⟨HU.out, .inl ⟨HMAY.out, rfl, HWT.out⟩⟩
  · have hb : ((es.length : Int) == 0) = false := by simpa using hl
    cases dot with
    | false =>
      clear ih hs hks hwee ho hm hn hwp hup hw hdot hl
      go_upto_region 25 with (fail)
      go_wp2_with fail
      generalize (w.setCell ⟨wb, 1, none⟩ (.int .i64 ((m : Int) + 1))).alloc (.cells #[.int .u8 5, .int .i64 0, .string ⟨#[]⟩, .slice A es.length c, .bool false] 58) = W at *
      clear c0 c1 cf0 cf1
      go_loopw [9, 112] (fun dv i wr => ∃ j : Nat, j ≤ es.length ∧ i = .int .i64 j ∧ dv = .int .i64 (deepL ((es.map El.d).take j) : Nat) ∧ Upd (fun b => b = wb) w wr ∧ Wtr wr wb bv (m + 1 + manyL ((es.map El.d).take j) : Nat) ∧ mayL ((es.map El.d).take j) = true) (fun _ i _ => es.length - (intOf i).toNat)
      case atStart => exact ⟨0, Nat.zero_le _, rfl, by simp [deepL], HUP.out, by simpa [manyL, Wtr] using HWP.out, by simp [mayL]⟩
      case round =>
        obtain ⟨j, hj, rfl, rfl, hu, hwt, hmay⟩ := hrel
        have HU := Lib.hid hu
        have HWT := Lib.hid hwt
        have HMAY := Lib.hid hmay
        clear hu hwt hmay
        by_cases hjl : j < es.length
        · have hsn := (HS.out.upd HU.out (fun b hb e => hG (e ▸ hb))).at j hjl
          obtain ⟨g, o, cc, hA, hGg, hltg, x0, x1, x2, x3, x4⟩ := hsn
          simp only [Value.slice.injEq] at hA
          obtain ⟨rfl, -, -⟩ := hA
          have q0 : (0 : Int) ≤ j := by omega
          have q1 : (j : Int) < es.length := by omega
          have q2 : IntKind.i64.wrap ((j : Int) + 1) = (j : Int) + 1 := IntWalk.i64_in _ (by omega)
          have hmem := List.getElem_mem hjl
          have hkk := (HKS.out _ hmem).upd HU.out (fun b hb e => hG (e ▸ hb))
          have hform := hkk.inv
          obtain ⟨es3, hes3, hseen3, hn3, hks3⟩ := hform
          obtain ⟨A3, c3, hkv3⟩ := hseen3.form
          have hM2 := manyL_get es j hjl
          have hH2 := hgtL_mem es[j].d (List.mem_map.2 ⟨_, hmem, rfl⟩)
          have hcall : ∀ w' (hh : New wr w'), Calls Try.prog 79 #[.pointer (some ⟨wb, 0, none⟩), datV es[j].d es[j].kv, .int .i64 ((over : Int) + 1)] w' (CheckPost es[j].d w' wb bv (m + 1 + manyL ((es.map El.d).take j))) := fun w' (hh : New wr w') => HIH.out _ hmem es[j].kv G (over + 1) (m + 1 + manyL ((es.map El.d).take j)) wb bv w' (hkk.new hh) hG (HWEE.out _ (List.mem_map.2 ⟨_, hmem, rfl⟩)) (by have := HO.out; omega) (by have := HM.out; omega) (hh.heap HWT.out (fun x => x))
          have hstep : (es.map El.d).take (j + 1) = (es.map El.d).take j ++ [es[j].d] := take_succ_map es j hjl
          have HST := Lib.hid hstep
          have HM2 := Lib.hid hM2
          have HC := Lib.hid hcall
          have hdd : es[j].d.deep ≤ 70000 := by have := deep_le_hgt es[j].d; have := HO.out; omega
          have HDD := Lib.hid hdd
          generalize hV : es[j] = X at *
          obtain ⟨xd, xkv, xbs⟩ := X
          simp only at *
          subst hkv3
          clear hcall hstep hM2 hH2 hkk hes3 hseen3 hn3 hks3 hV hmem hdd
          unfold datV at HC
          go_wp2_with fail
          refine (HC.out _ ((Upd.refl (fun _ => False) wr).alloc _)).mono ?_
          rintro e w3 ⟨hu3, h3⟩
          have HU3 := Lib.hid hu3
          have hsz3 := hu3.size
          simp only [World.size_alloc] at hsz3
          clear hu3
          rcases h3 with ⟨hm3, rfl, hw3⟩ | ⟨hm3, rfl, m3, hw3⟩
          · have HM3 := Lib.hid hm3
            have HW3 := Lib.hid hw3
            clear hm3 hw3
            go_wp2_with fail
            go_roundw
            case measure => simp [intOf]; omega
            case rel =>
              refine ⟨j + 1, by omega, by simp, ?_, HU.out.trans (((Upd.refl (fun b => b = wb) wr).alloc _).trans HU3.out), ?_, ?_⟩
              · rw [HST.out, deepL_append, deepL, deepL]; simp; omega
              · rw [HST.out, manyL_append, manyL, manyL]; exact (by have := HW3.out; simpa [Nat.add_assoc] using this)
              · rw [HST.out, mayL_append, HMAY.out, mayL, mayL, HM3.out]; rfl
          · have HM3 := Lib.hid hm3
            have HW3 := Lib.hid hw3
            clear hm3 hw3
            go_wp2_with fail
            refine bodyPost_ret (results_tmp2 rfl _ _ _) rfl ⟨HU.out.trans (((Upd.refl (fun b => b = wb) wr).alloc _).trans HU3.out), .inr ⟨?_, rfl, _, HW3.out⟩⟩
            exact mayL_false (List.mem_of_mem_take (i := j + 1) (by rw [HST.out]; simp)) HM3.out
        · have q1 : ¬ (j : Int) < es.length := by omega
          have hje : j = es.length := by omega
          have htk : (es.map El.d).take j = es.map El.d := List.take_of_length_le (by simp; omega)
          have HTK := Lib.hid htk
          have hdd : (deepL (es.map El.d) : Int) ≤ 70000 := by
            have h1 := deep_le_hgt (.mk 5 0 ⟨#[]⟩ (es.map El.d) false)
            rw [Dat.deep, Dat.hgt, if_pos rfl] at h1
            have := HO.out; omega
          have hd0 : (0 : Int) ≤ deepL (es.map El.d) := by omega
          have q3 : IntKind.i64.wrap ((deepL (es.map El.d) : Int) + 1) = (deepL (es.map El.d) : Int) + 1 := IntWalk.i64_in _ (by omega)
          rw [htk] at HMAY HWT ⊢
          clear htk hje
          go_wp2_with fail
          exact bodyPost_ret (results_tmp2 rfl _ _ _) rfl ⟨HU.out, .inl ⟨HMAY.out, rfl, HWT.out⟩⟩
    | true =>
      obtain ⟨hd2, hdl⟩ := hdot rfl
      have hl1 : es.length - 1 < es.length := by omega
      have hlast := hdl hl1
      obtain ⟨g0, o0, cc0, hA0, hGg0, hltg0, z0, -, -, -, -⟩ := (HS.out.upd HUP.out (fun b hb e => hG (e ▸ hb))).at (es.length - 1) hl1
      simp only [Value.slice.injEq] at hA0
      obtain ⟨rfl, -, -⟩ := hA0
      have r0 : ¬ ((es.length : Int) < 2) := by omega
      have r1 : (0 : Int) ≤ (es.length : Int) - 1 := by omega
      have r2 : (es.length : Int) - 1 < es.length := by omega
      have r3 : IntKind.i64.wrap ((es.length : Int) - 1) = (es.length : Int) - 1 := IntWalk.i64_in _ (by omega)
      have r4 : ((es.length : Int) - 1).toNat = es.length - 1 := by omega
      have hle : (es[es.length - 1].d.k == 5) = false := hlast
      generalize es[es.length - 1].d.k = lk at *
      clear hdl hl1 hlast hd2
      clear ih hs hks hwee ho hm hn hwp hup hw hdot hl
      go_upto_region 25 with (fail)
      go_wp2_with fail
      generalize (w.setCell ⟨wb, 1, none⟩ (.int .i64 ((m : Int) + 1))).alloc (.cells #[.int .u8 5, .int .i64 0, .string ⟨#[]⟩, .slice (some ⟨g0, o0, none⟩) es.length c, .bool true] 58) = W at *
      clear c0 c1 cf0 cf1
      go_loopw [9, 112] (fun dv i wr => ∃ j : Nat, j ≤ es.length ∧ i = .int .i64 j ∧ dv = .int .i64 (deepL ((es.map El.d).take j) : Nat) ∧ Upd (fun b => b = wb) w wr ∧ Wtr wr wb bv (m + 1 + manyL ((es.map El.d).take j) : Nat) ∧ mayL ((es.map El.d).take j) = true) (fun _ i _ => es.length - (intOf i).toNat)
      case atStart => exact ⟨0, Nat.zero_le _, rfl, by simp [deepL], HUP.out, by simpa [manyL, Wtr] using HWP.out, by simp [mayL]⟩
      case round =>
        obtain ⟨j, hj, rfl, rfl, hu, hwt, hmay⟩ := hrel
        have HU := Lib.hid hu
        have HWT := Lib.hid hwt
        have HMAY := Lib.hid hmay
        clear hu hwt hmay
        by_cases hjl : j < es.length
        · have hsn := (HS.out.upd HU.out (fun b hb e => hG (e ▸ hb))).at j hjl
          obtain ⟨g, o, cc, hA, hGg, hltg, x0, x1, x2, x3, x4⟩ := hsn
          simp only [Value.slice.injEq, Option.some.injEq, Addr.mk.injEq] at hA
          obtain ⟨⟨rfl, rfl, -⟩, -, -⟩ := hA
          have q0 : (0 : Int) ≤ j := by omega
          have q1 : (j : Int) < es.length := by omega
          have q2 : IntKind.i64.wrap ((j : Int) + 1) = (j : Int) + 1 := IntWalk.i64_in _ (by omega)
          have hmem := List.getElem_mem hjl
          have hkk := (HKS.out _ hmem).upd HU.out (fun b hb e => hG (e ▸ hb))
          have hform := hkk.inv
          obtain ⟨es3, hes3, hseen3, hn3, hks3⟩ := hform
          obtain ⟨A3, c3, hkv3⟩ := hseen3.form
          have hM2 := manyL_get es j hjl
          have hH2 := hgtL_mem es[j].d (List.mem_map.2 ⟨_, hmem, rfl⟩)
          have hcall : ∀ w' (hh : New wr w'), Calls Try.prog 79 #[.pointer (some ⟨wb, 0, none⟩), datV es[j].d es[j].kv, .int .i64 ((over : Int) + 1)] w' (CheckPost es[j].d w' wb bv (m + 1 + manyL ((es.map El.d).take j))) := fun w' (hh : New wr w') => HIH.out _ hmem es[j].kv G (over + 1) (m + 1 + manyL ((es.map El.d).take j)) wb bv w' (hkk.new hh) hG (HWEE.out _ (List.mem_map.2 ⟨_, hmem, rfl⟩)) (by have := HO.out; omega) (by have := HM.out; omega) (hh.heap HWT.out (fun x => x))
          have hstep : (es.map El.d).take (j + 1) = (es.map El.d).take j ++ [es[j].d] := take_succ_map es j hjl
          have HST := Lib.hid hstep
          have HM2 := Lib.hid hM2
          have HC := Lib.hid hcall
          have hdd : es[j].d.deep ≤ 70000 := by have := deep_le_hgt es[j].d; have := HO.out; omega
          have HDD := Lib.hid hdd
          generalize hV : es[j] = X at *
          obtain ⟨xd, xkv, xbs⟩ := X
          simp only at *
          subst hkv3
          clear hcall hstep hM2 hH2 hkk hes3 hseen3 hn3 hks3 hV hmem hdd
          unfold datV at HC
          go_wp2_with fail
          refine (HC.out _ ((Upd.refl (fun _ => False) wr).alloc _)).mono ?_
          rintro e w3 ⟨hu3, h3⟩
          have HU3 := Lib.hid hu3
          have hsz3 := hu3.size
          simp only [World.size_alloc] at hsz3
          clear hu3
          rcases h3 with ⟨hm3, rfl, hw3⟩ | ⟨hm3, rfl, m3, hw3⟩
          · have HM3 := Lib.hid hm3
            have HW3 := Lib.hid hw3
            clear hm3 hw3
            go_wp2_with fail
            go_roundw
            case measure => simp [intOf]; omega
            case rel =>
              refine ⟨j + 1, by omega, by simp, ?_, HU.out.trans (((Upd.refl (fun b => b = wb) wr).alloc _).trans HU3.out), ?_, ?_⟩
              · rw [HST.out, deepL_append, deepL, deepL]; simp; omega
              · rw [HST.out, manyL_append, manyL, manyL]; exact (by have := HW3.out; simpa [Nat.add_assoc] using this)
              · rw [HST.out, mayL_append, HMAY.out, mayL, mayL, HM3.out]; rfl
          · have HM3 := Lib.hid hm3
            have HW3 := Lib.hid hw3
            clear hm3 hw3
            go_wp2_with fail
            refine bodyPost_ret (results_tmp2 rfl _ _ _) rfl ⟨HU.out.trans (((Upd.refl (fun b => b = wb) wr).alloc _).trans HU3.out), .inr ⟨?_, rfl, _, HW3.out⟩⟩
            exact mayL_false (List.mem_of_mem_take (i := j + 1) (by rw [HST.out]; simp)) HM3.out
        · have q1 : ¬ (j : Int) < es.length := by omega
          have hje : j = es.length := by omega
          have htk : (es.map El.d).take j = es.map El.d := List.take_of_length_le (by simp; omega)
          have HTK := Lib.hid htk
          have hdd : (deepL (es.map El.d) : Int) ≤ 70000 := by
            have h1 := deep_le_hgt (.mk 5 0 ⟨#[]⟩ (es.map El.d) false)
            rw [Dat.deep, Dat.hgt, if_pos rfl] at h1
            have := HO.out; omega
          have hd0 : (0 : Int) ≤ deepL (es.map El.d) := by omega
          have q3 : IntKind.i64.wrap ((deepL (es.map El.d) : Int) + 1) = (deepL (es.map El.d) : Int) + 1 := IntWalk.i64_in _ (by omega)
          rw [htk] at HMAY HWT ⊢
          clear htk hje
          go_wp2_with fail
          exact bodyPost_ret (results_tmp2 rfl _ _ _) rfl ⟨HU.out, .inl ⟨HMAY.out, rfl, HWT.out⟩⟩
end Go.Proofs.Ytnnjhafjcdjobaa
