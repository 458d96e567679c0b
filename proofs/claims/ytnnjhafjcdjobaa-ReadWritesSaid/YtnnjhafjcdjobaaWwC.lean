/- Read: the reference's writing: a datum's text. -/
import Derived.Test.YtnnjhafjcdjobaaWwB
namespace Go.Proofs.Ytnnjhafjcdjobaa
open Go.RowKit
set_option linter.unusedVariables false
set_option linter.unusedSimpArgs false

theorem pc_a (c : ByteArray) (ts : List ByteArray) (len : Nat) (dot : Bool) (j : Nat) (t : ByteArray) (h : ts.getD j ⟨#[]⟩ = t) (hj : j = 0) (hd : ¬ (dot = true ∧ j + 1 = len)) : c ++ preT ts len dot (j + 1) = (c ++ preT ts len dot j) ++ t := by
  have e : (⟨#[]⟩ : ByteArray) ++ ⟨#[]⟩ ++ t = t := ByteArray.ext (by simp)
  rw [preT, piece, if_neg (by omega), if_neg hd, h, e]
  simp only [ByteArray.append_assoc]
theorem pc_b (c : ByteArray) (ts : List ByteArray) (len : Nat) (dot : Bool) (j : Nat) (t : ByteArray) (h : ts.getD j ⟨#[]⟩ = t) (hj : 0 < j) (hd : ¬ (dot = true ∧ j + 1 = len)) : c ++ preT ts len dot (j + 1) = ((c ++ preT ts len dot j) ++ ⟨#[32]⟩) ++ t := by
  have e : (⟨#[32]⟩ : ByteArray) ++ ⟨#[]⟩ ++ t = ⟨#[32]⟩ ++ t := ByteArray.ext (by simp)
  rw [preT, piece, if_pos hj, if_neg hd, h, e]
  simp only [ByteArray.append_assoc]
theorem pc_c (c : ByteArray) (ts : List ByteArray) (len : Nat) (dot : Bool) (j : Nat) (t : ByteArray) (h : ts.getD j ⟨#[]⟩ = t) (hj : 0 < j) (hd : dot = true ∧ j + 1 = len) : c ++ preT ts len dot (j + 1) = (((c ++ preT ts len dot j) ++ ⟨#[32]⟩) ++ ⟨#[46, 32]⟩) ++ t := by
  rw [preT, piece, if_pos hj, if_pos hd, h]
  simp only [ByteArray.append_assoc]
theorem wgtL_append (l l2 : List Dat) : wgtL (l ++ l2) = wgtL l + wgtL l2 := by
  induction l with
  | nil => simp [wgtL]
  | cons d l ih => simp only [List.cons_append, wgtL, ih]; omega
theorem preT_size (l : List Dat) (h : ∀ d ∈ l, (txtD d).size + 3 ≤ 28 * d.wgt) (len : Nat) (dot : Bool) : ∀ j, j ≤ l.length → (preT (l.map txtD) len dot j).size ≤ 28 * wgtL (l.take j) := by
  intro j
  induction j with
  | zero => intro _; exact Nat.zero_le _
  | succ j ih =>
    intro hj
    have h1 := ih (by omega)
    have hlt : j < l.length := by omega
    have hg : (l.map txtD).getD j ⟨#[]⟩ = txtD l[j] := by
      rw [List.getD_eq_getElem?_getD, List.getElem?_map, List.getElem?_eq_getElem hlt]; rfl
    have h2 := h l[j] (List.getElem_mem hlt)
    have h3 : l.take (j + 1) = l.take j ++ [l[j]] := by rw [List.take_add_one]; simp [List.getElem?_eq_getElem hlt]
    have e1 : (⟨#[32]⟩ : ByteArray).size = 1 := rfl
    have e2 : (⟨#[46, 32]⟩ : ByteArray).size = 2 := rfl
    have e0 : (⟨#[]⟩ : ByteArray).size = 0 := rfl
    rw [preT, piece, hg, h3, wgtL_append, wgtL, wgtL]
    simp only [ByteArray.size_append]
    split <;> split <;> omega
theorem wgtL_take (l : List Dat) (j : Nat) : wgtL (l.take j) ≤ wgtL l := by
  conv => rhs; rw [← List.take_append_drop j l]
  rw [wgtL_append]; omega
theorem wgtL_mem {l : List Dat} : ∀ d ∈ l, d.wgt ≤ wgtL l := by
  induction l with
  | nil => intro d hd; simp at hd
  | cons x l ih =>
    intro d hd
    rw [wgtL]
    rcases List.mem_cons.1 hd with rfl | hd
    · omega
    · have := ih d hd; omega
theorem txt_size : ∀ d : Dat, mayD d = true → (txtD d).size + 3 ≤ 28 * d.wgt := by
  intro d
  induction d using Dat.ind with
  | h k n t l dot ih =>
    intro h
    by_cases h5 : k = 5
    · subst h5
      obtain ⟨-, rfl, rfl, hl, -⟩ := mayD_list h (by decide) (by decide) (by decide) (by decide)
      rw [Dat.wgt]
      by_cases hq : isQ l dot = true
      · obtain ⟨a, b, rfl, rfl, hak, hat⟩ := isQ_inv hq
        rw [txt_quote 0 ⟨#[]⟩ a b hak hat, ByteArray.size_append]
        have e1 : (⟨#[39]⟩ : ByteArray).size = 1 := rfl
        have := ih b (by simp) (mayL_mem hl b (by simp))
        rw [wgtL, wgtL, wgtL]
        omega
      · rw [txt_list 0 ⟨#[]⟩ l dot (by simpa using hq)]
        have e1 : (⟨#[40]⟩ : ByteArray).size = 1 := rfl
        have e2 : (⟨#[41]⟩ : ByteArray).size = 1 := rfl
        have h3 := preT_size l (fun d hd => ih d hd (mayL_mem hl d hd)) l.length dot l.length (Nat.le_refl _)
        rw [List.take_length] at h3
        simp only [ByteArray.size_append]
        omega
    · obtain ⟨rfl, rfl, hk4, hk1, hn0, hk2, hk34⟩ := mayD_leaf h h5
      rw [Dat.wgt, wgtL]
      rcases hk4 with rfl | rfl | rfl | rfl
      · obtain ⟨_, h1, h2⟩ := hk1 rfl
        rw [txtD, if_pos rfl]
        have := numT_len h1 (by omega)
        omega
      · rw [txtD, if_neg (by decide), if_pos rfl]; omega
      · rw [txtD, if_neg (by decide), if_neg (by decide), if_pos rfl]
        have e1 : (⟨#[35, 102]⟩ : ByteArray).size = 2 := rfl
        omega
      · rw [txtD, if_neg (by decide), if_neg (by decide), if_neg (by decide), if_pos rfl]
        have e1 : (⟨#[35, 116]⟩ : ByteArray).size = 2 := rfl
        omega
def RTEXT (d : Dat) : Prop := ∀ (kv : Value) (w : World), Sees w All kv d.kids → mayD d = true → d.wgt ≤ 200000 → Calls Try.prog 77 #[datV d kv] w fun e w' => e = .returned (.string (txtD d)) ∧ New w w'
set_option maxHeartbeats 8000000 in
set_option maxRecDepth 20000 in
theorem Rtext_a (es : List El) (A : Option Addr) (c : Nat) (ih : ∀ e ∈ es, RTEXT e.d) (w : World) (hseen : Seen w All (.slice A es.length c) es) (hks : ∀ e ∈ es, Sees w All e.kv e.d.kids) (hn : es.length ≤ 2000000) (hml : mayL (es.map El.d) = true) (hwg : wgtL (es.map El.d) ≤ 200000) (hq : es.length ≠ 2) (R : ByteArray) (hR : ⟨#[40]⟩ ++ preT ((es.map El.d).map txtD) es.length false es.length ++ ⟨#[41]⟩ = R) :
    Calls Try.prog 77 #[.agg #[.int .u8 5, .int .i64 0, .string ⟨#[]⟩, .slice A es.length c, .bool false]] w fun e w' => e = .returned (.string R) ∧ New w w' := by
  have hbx := heap_alloc_new w (.cells #[.int .u8 5, .int .i64 0, .string ⟨#[]⟩, .slice A es.length c, .bool false] 58)
  have hup : New w (w.alloc (.cells #[.int .u8 5, .int .i64 0, .string ⟨#[]⟩, .slice A es.length c, .bool false] 58)) := (Upd.refl (fun _ => False) w).alloc _
  obtain ⟨⟨a0, a1, a2, a3, a4⟩, af⟩ := blk5 hbx
  have HN := Lib.hid hup
  have HB := Lib.hid hbx
  have HS := Lib.hid (hseen.new hup)
  have HK := Lib.hid (fun e he => (hks e he).new hup)
  have HIH := Lib.hid ih
  have HM := Lib.hid (mayL_mem hml)
  have hnI : (es.length : Int) ≤ 2000000 := by omega
  have HPS := Lib.hid (fun j hj => Nat.le_trans (preT_size (es.map El.d) (fun d hd => txt_size d (mayL_mem hml d hd)) es.length false j hj) (Nat.mul_le_mul_left 28 (wgtL_take (es.map El.d) j)))
  have HWG := Lib.hid hwg
  have HR := Lib.hid hR
  have hq1 : ((es.length : Int) == 2) = false := by simp; omega
  clear hq
  clear hR hseen hks ih hbx hup hn hml hwg
  go_enter Try.func77, Try.ntmps77
  go_wp2_with fail
  generalize w.alloc (.cells #[.int .u8 5, .int .i64 0, .string ⟨#[]⟩, .slice A es.length c, .bool false] 58) = W at *
  clear a0 a1 a2 a3 a4 af
  go_loopw [3, 4] (fun sv i wr => New W wr ∧ ∃ j : Nat, j ≤ es.length ∧ i = .int .i64 j ∧ sv = .string (⟨#[40]⟩ ++ preT ((es.map El.d).map txtD) es.length false j)) (fun _ i _ => es.length - (intOf i).toNat)
  case atStart => exact ⟨Upd.refl (fun _ => False) W, 0, Nat.zero_le _, rfl, rfl⟩
  case round =>
    obtain ⟨hn, j, hj, rfl, rfl⟩ := hrel
    have HN2 := Lib.hid hn
    obtain ⟨⟨a0, a1, a2, a3, a4⟩, af⟩ := blk5 (hn.heap HB.out (fun x => x))
    clear hn
    have hSz : ((⟨#[40]⟩ ++ preT ((es.map El.d).map txtD) es.length false j).size : Int) ≤ 6000000 := by
      have h1 := HPS.out j (by rw [List.length_map]; exact hj)
      have h2 := HWG.out
      have e1 : (⟨#[40]⟩ : ByteArray).size = 1 := rfl
      rw [ByteArray.size_append]; omega
    by_cases hjl : j < es.length
    · have j0 : (0 : Int) ≤ j := by omega
      have j1 : (j : Int) < es.length := by omega
      have j3 : IntKind.i64.wrap ((j : Int) + 1) = (j : Int) + 1 := IntWalk.i64_in _ (by omega)
      obtain ⟨g, o, cc, hA, hG, hlt, x0, x1, x2, x3, x4⟩ := (HS.out.new HN2.out).at j hjl
      simp only [Value.slice.injEq] at hA
      obtain ⟨rfl, -, -⟩ := hA
      have hmem := List.getElem_mem hjl
      have hkk := (HK.out _ hmem).new HN2.out
      obtain ⟨es3, hes3, hseen3, -⟩ := hkk.inv
      obtain ⟨A4, c4, hkv⟩ := hseen3.form
      have hmem2 : es[j].d ∈ es.map El.d := List.mem_map.2 ⟨_, hmem, rfl⟩
      have hwk : es[j].d.wgt ≤ 200000 := Nat.le_trans (wgtL_mem _ hmem2) HWG.out
      have hcall := fun w' (hh : New wr w') => HIH.out es[j] hmem es[j].kv w' (hkk.new hh) (HM.out _ hmem2) hwk
      have hts := txt_size es[j].d (HM.out _ hmem2)
      have HGT := Lib.hid (getD_txt es j hjl)
      have HC := Lib.hid hcall
      generalize hV : es[j] = X at *
      obtain ⟨xd, xkv, xbs⟩ := X
      simp only at *
      subst hkv
      have htz : ((txtD xd).size : Int) ≤ 6000000 := by omega
      generalize hTX : txtD xd = TX at *
      clear hkk hes3 hseen3 hcall hmem hmem2 hV hts hwk hTX
      unfold datV at HC
      have q32 : (⟨#[32]⟩ : ByteArray).size = 1 := rfl
      have q46 : (⟨#[46, 32]⟩ : ByteArray).size = 2 := rfl
      by_cases hj0 : j = 0
      · have HJ0 := Lib.hid hj0
        have hjd : decide ((0 : Int) < (j : Int)) = false := decide_eq_false (by omega)
        have hjm : ¬ ((0 : Int) < (j : Int)) := by omega
        clear hj0
        have HPE := Lib.hid (pc_a ⟨#[40]⟩ ((es.map El.d).map txtD) es.length false j _ HGT.out HJ0.out (fun h => by have := h.1; cases this))
        generalize ⟨#[40]⟩ ++ preT ((es.map El.d).map txtD) es.length false j = S at *
        go_wp2_with fail
        refine (HC.out _ (Upd.refl _ _)).mono ?_
        rintro e w5 ⟨rfl, hu5⟩
        have HU5 := Lib.hid hu5
        clear hu5
        go_wp2_with fail
        go_roundw
        case measure => simp [intOf]; omega
        case rel => exact ⟨HN2.out.trans HU5.out, j + 1, by omega, by simp, by rw [HPE.out]⟩
      · have hjp : 0 < j := by omega
        have hjq : (0 : Int) < (j : Int) := by omega
        have hjd : decide ((0 : Int) < (j : Int)) = true := decide_eq_true hjq
        clear hj0
        have HPE := Lib.hid (pc_b ⟨#[40]⟩ ((es.map El.d).map txtD) es.length false j _ HGT.out hjp (fun h => by have := h.1; cases this))
        generalize ⟨#[40]⟩ ++ preT ((es.map El.d).map txtD) es.length false j = S at *
        go_wp2_with fail
        refine (HC.out _ (Upd.refl _ _)).mono ?_
        rintro e w5 ⟨rfl, hu5⟩
        have HU5 := Lib.hid hu5
        clear hu5
        go_wp2_with fail
        go_roundw
        case measure => simp [intOf]; omega
        case rel => exact ⟨HN2.out.trans HU5.out, j + 1, by omega, by simp, by rw [HPE.out]⟩
    · have j1 : ¬ (j : Int) < es.length := by omega
      obtain rfl : j = es.length := by omega
      have q41 : (⟨#[41]⟩ : ByteArray).size = 1 := rfl
      generalize ⟨#[40]⟩ ++ preT ((es.map El.d).map txtD) es.length false es.length = S at *
      go_wp2_with fail
      go_ret
      refine ⟨?_, HN.out.trans HN2.out⟩
      rw [← HR.out]; rfl
set_option maxHeartbeats 8000000 in
set_option maxRecDepth 20000 in
theorem Rtext_b (es : List El) (A : Option Addr) (c : Nat) (ih : ∀ e ∈ es, RTEXT e.d) (w : World) (hseen : Seen w All (.slice A es.length c) es) (hks : ∀ e ∈ es, Sees w All e.kv e.d.kids) (hn : es.length ≤ 2000000) (hml : mayL (es.map El.d) = true) (hwg : wgtL (es.map El.d) ≤ 200000) (hq : es.length ≠ 2) (hdl : 2 ≤ es.length) (R : ByteArray) (hR : ⟨#[40]⟩ ++ preT ((es.map El.d).map txtD) es.length true es.length ++ ⟨#[41]⟩ = R) :
    Calls Try.prog 77 #[.agg #[.int .u8 5, .int .i64 0, .string ⟨#[]⟩, .slice A es.length c, .bool true]] w fun e w' => e = .returned (.string R) ∧ New w w' := by
  have hbx := heap_alloc_new w (.cells #[.int .u8 5, .int .i64 0, .string ⟨#[]⟩, .slice A es.length c, .bool true] 58)
  have hup : New w (w.alloc (.cells #[.int .u8 5, .int .i64 0, .string ⟨#[]⟩, .slice A es.length c, .bool true] 58)) := (Upd.refl (fun _ => False) w).alloc _
  obtain ⟨⟨a0, a1, a2, a3, a4⟩, af⟩ := blk5 hbx
  have HN := Lib.hid hup
  have HB := Lib.hid hbx
  have HS := Lib.hid (hseen.new hup)
  have HK := Lib.hid (fun e he => (hks e he).new hup)
  have HIH := Lib.hid ih
  have HM := Lib.hid (mayL_mem hml)
  have hnI : (es.length : Int) ≤ 2000000 := by omega
  have HPS := Lib.hid (fun j hj => Nat.le_trans (preT_size (es.map El.d) (fun d hd => txt_size d (mayL_mem hml d hd)) es.length true j hj) (Nat.mul_le_mul_left 28 (wgtL_take (es.map El.d) j)))
  have HWG := Lib.hid hwg
  have HR := Lib.hid hR
  have hq1 : ((es.length : Int) == 2) = false := by simp; omega
  clear hq
  clear hR hseen hks ih hbx hup hn hml hwg
  go_enter Try.func77, Try.ntmps77
  go_wp2_with fail
  generalize w.alloc (.cells #[.int .u8 5, .int .i64 0, .string ⟨#[]⟩, .slice A es.length c, .bool true] 58) = W at *
  clear a0 a1 a2 a3 a4 af
  go_loopw [3, 4] (fun sv i wr => New W wr ∧ ∃ j : Nat, j ≤ es.length ∧ i = .int .i64 j ∧ sv = .string (⟨#[40]⟩ ++ preT ((es.map El.d).map txtD) es.length true j)) (fun _ i _ => es.length - (intOf i).toNat)
  case atStart => exact ⟨Upd.refl (fun _ => False) W, 0, Nat.zero_le _, rfl, rfl⟩
  case round =>
    obtain ⟨hn, j, hj, rfl, rfl⟩ := hrel
    have HN2 := Lib.hid hn
    obtain ⟨⟨a0, a1, a2, a3, a4⟩, af⟩ := blk5 (hn.heap HB.out (fun x => x))
    clear hn
    have hSz : ((⟨#[40]⟩ ++ preT ((es.map El.d).map txtD) es.length true j).size : Int) ≤ 6000000 := by
      have h1 := HPS.out j (by rw [List.length_map]; exact hj)
      have h2 := HWG.out
      have e1 : (⟨#[40]⟩ : ByteArray).size = 1 := rfl
      rw [ByteArray.size_append]; omega
    by_cases hjl : j < es.length
    · have j0 : (0 : Int) ≤ j := by omega
      have j1 : (j : Int) < es.length := by omega
      have j3 : IntKind.i64.wrap ((j : Int) + 1) = (j : Int) + 1 := IntWalk.i64_in _ (by omega)
      obtain ⟨g, o, cc, hA, hG, hlt, x0, x1, x2, x3, x4⟩ := (HS.out.new HN2.out).at j hjl
      simp only [Value.slice.injEq] at hA
      obtain ⟨rfl, -, -⟩ := hA
      have hmem := List.getElem_mem hjl
      have hkk := (HK.out _ hmem).new HN2.out
      obtain ⟨es3, hes3, hseen3, -⟩ := hkk.inv
      obtain ⟨A4, c4, hkv⟩ := hseen3.form
      have hmem2 : es[j].d ∈ es.map El.d := List.mem_map.2 ⟨_, hmem, rfl⟩
      have hwk : es[j].d.wgt ≤ 200000 := Nat.le_trans (wgtL_mem _ hmem2) HWG.out
      have hcall := fun w' (hh : New wr w') => HIH.out es[j] hmem es[j].kv w' (hkk.new hh) (HM.out _ hmem2) hwk
      have hts := txt_size es[j].d (HM.out _ hmem2)
      have HGT := Lib.hid (getD_txt es j hjl)
      have HC := Lib.hid hcall
      generalize hV : es[j] = X at *
      obtain ⟨xd, xkv, xbs⟩ := X
      simp only at *
      subst hkv
      have htz : ((txtD xd).size : Int) ≤ 6000000 := by omega
      generalize hTX : txtD xd = TX at *
      clear hkk hes3 hseen3 hcall hmem hmem2 hV hts hwk hTX
      unfold datV at HC
      have q32 : (⟨#[32]⟩ : ByteArray).size = 1 := rfl
      have q46 : (⟨#[46, 32]⟩ : ByteArray).size = 2 := rfl
      by_cases hj0 : j = 0
      · have HJ0 := Lib.hid hj0
        have hjd : decide ((0 : Int) < (j : Int)) = false := decide_eq_false (by omega)
        have hjm : ¬ ((0 : Int) < (j : Int)) := by omega
        clear hj0
        have hnl : ¬ (true = true ∧ j + 1 = es.length) := fun h => by have h1 := h.2; have h2 := HJ0.out; omega
        have g1 : IntKind.i64.wrap ((es.length : Int) - 1) = (es.length : Int) - 1 := IntWalk.i64_in _ (by omega)
        have g2 : ((j : Int) == (es.length : Int) - 1) = false := by have h2 := HJ0.out; simp; omega
        have HPE := Lib.hid (pc_a ⟨#[40]⟩ ((es.map El.d).map txtD) es.length true j _ HGT.out HJ0.out hnl)
        clear hnl
        generalize ⟨#[40]⟩ ++ preT ((es.map El.d).map txtD) es.length true j = S at *
        go_wp2_with fail
        refine (HC.out _ (Upd.refl _ _)).mono ?_
        rintro e w5 ⟨rfl, hu5⟩
        have HU5 := Lib.hid hu5
        clear hu5
        go_wp2_with fail
        go_roundw
        case measure => simp [intOf]; omega
        case rel => exact ⟨HN2.out.trans HU5.out, j + 1, by omega, by simp, by rw [HPE.out]⟩
      · have hjp : 0 < j := by omega
        have hjq : (0 : Int) < (j : Int) := by omega
        have hjd : decide ((0 : Int) < (j : Int)) = true := decide_eq_true hjq
        clear hj0
        have g1 : IntKind.i64.wrap ((es.length : Int) - 1) = (es.length : Int) - 1 := IntWalk.i64_in _ (by omega)
        by_cases hla : j + 1 = es.length
        · have g2 : ((j : Int) == (es.length : Int) - 1) = true := by simp; omega
          have HPE := Lib.hid (pc_c ⟨#[40]⟩ ((es.map El.d).map txtD) es.length true j _ HGT.out hjp ⟨rfl, hla⟩)
          clear hla
          generalize ⟨#[40]⟩ ++ preT ((es.map El.d).map txtD) es.length true j = S at *
          go_wp2_with fail
          refine (HC.out _ (Upd.refl _ _)).mono ?_
          rintro e w5 ⟨rfl, hu5⟩
          have HU5 := Lib.hid hu5
          clear hu5
          go_wp2_with fail
          go_roundw
          case measure => simp [intOf]; omega
          case rel => exact ⟨HN2.out.trans HU5.out, j + 1, by omega, by simp, by rw [HPE.out]⟩
        · have g2 : ((j : Int) == (es.length : Int) - 1) = false := by simp; omega
          have HPE := Lib.hid (pc_b ⟨#[40]⟩ ((es.map El.d).map txtD) es.length true j _ HGT.out hjp (fun h => hla h.2))
          clear hla
          generalize ⟨#[40]⟩ ++ preT ((es.map El.d).map txtD) es.length true j = S at *
          go_wp2_with fail
          refine (HC.out _ (Upd.refl _ _)).mono ?_
          rintro e w5 ⟨rfl, hu5⟩
          have HU5 := Lib.hid hu5
          clear hu5
          go_wp2_with fail
          go_roundw
          case measure => simp [intOf]; omega
          case rel => exact ⟨HN2.out.trans HU5.out, j + 1, by omega, by simp, by rw [HPE.out]⟩
    · have j1 : ¬ (j : Int) < es.length := by omega
      obtain rfl : j = es.length := by omega
      have q41 : (⟨#[41]⟩ : ByteArray).size = 1 := rfl
      generalize ⟨#[40]⟩ ++ preT ((es.map El.d).map txtD) es.length true es.length = S at *
      go_wp2_with fail
      go_ret
      refine ⟨?_, HN.out.trans HN2.out⟩
      rw [← HR.out]; rfl
set_option maxHeartbeats 8000000 in
set_option maxRecDepth 20000 in
theorem Rtext_c (es : List El) (A : Option Addr) (c : Nat) (ih : ∀ e ∈ es, RTEXT e.d) (w : World) (hseen : Seen w All (.slice A es.length c) es) (hks : ∀ e ∈ es, Sees w All e.kv e.d.kids) (hn : es.length ≤ 2000000) (hml : mayL (es.map El.d) = true) (hwg : wgtL (es.map El.d) ≤ 200000) (hq : es.length = 2) (R : ByteArray) (hR : ⟨#[40]⟩ ++ preT ((es.map El.d).map txtD) es.length true es.length ++ ⟨#[41]⟩ = R) :
    Calls Try.prog 77 #[.agg #[.int .u8 5, .int .i64 0, .string ⟨#[]⟩, .slice A es.length c, .bool true]] w fun e w' => e = .returned (.string R) ∧ New w w' := by
  have hbx := heap_alloc_new w (.cells #[.int .u8 5, .int .i64 0, .string ⟨#[]⟩, .slice A es.length c, .bool true] 58)
  have hup : New w (w.alloc (.cells #[.int .u8 5, .int .i64 0, .string ⟨#[]⟩, .slice A es.length c, .bool true] 58)) := (Upd.refl (fun _ => False) w).alloc _
  obtain ⟨⟨a0, a1, a2, a3, a4⟩, af⟩ := blk5 hbx
  have HN := Lib.hid hup
  have HB := Lib.hid hbx
  have HS := Lib.hid (hseen.new hup)
  have HK := Lib.hid (fun e he => (hks e he).new hup)
  have HIH := Lib.hid ih
  have HM := Lib.hid (mayL_mem hml)
  have hnI : (es.length : Int) ≤ 2000000 := by omega
  have HPS := Lib.hid (fun j hj => Nat.le_trans (preT_size (es.map El.d) (fun d hd => txt_size d (mayL_mem hml d hd)) es.length true j hj) (Nat.mul_le_mul_left 28 (wgtL_take (es.map El.d) j)))
  have HWG := Lib.hid hwg
  have HR := Lib.hid hR
  have hq1 : ((es.length : Int) == 2) = true := by simp; omega
  have hdl : 2 ≤ es.length := by omega
  have HQ := Lib.hid hq
  clear hq
  clear hR hseen hks ih hbx hup hn hml hwg
  go_enter Try.func77, Try.ntmps77
  go_wp2_with fail
  generalize w.alloc (.cells #[.int .u8 5, .int .i64 0, .string ⟨#[]⟩, .slice A es.length c, .bool true] 58) = W at *
  clear a0 a1 a2 a3 a4 af
  go_loopw [3, 4] (fun sv i wr => New W wr ∧ ∃ j : Nat, j ≤ es.length ∧ i = .int .i64 j ∧ sv = .string (⟨#[40]⟩ ++ preT ((es.map El.d).map txtD) es.length true j)) (fun _ i _ => es.length - (intOf i).toNat)
  case atStart => exact ⟨Upd.refl (fun _ => False) W, 0, Nat.zero_le _, rfl, rfl⟩
  case round =>
    obtain ⟨hn, j, hj, rfl, rfl⟩ := hrel
    have HN2 := Lib.hid hn
    obtain ⟨⟨a0, a1, a2, a3, a4⟩, af⟩ := blk5 (hn.heap HB.out (fun x => x))
    clear hn
    have hSz : ((⟨#[40]⟩ ++ preT ((es.map El.d).map txtD) es.length true j).size : Int) ≤ 6000000 := by
      have h1 := HPS.out j (by rw [List.length_map]; exact hj)
      have h2 := HWG.out
      have e1 : (⟨#[40]⟩ : ByteArray).size = 1 := rfl
      rw [ByteArray.size_append]; omega
    by_cases hjl : j < es.length
    · have j0 : (0 : Int) ≤ j := by omega
      have j1 : (j : Int) < es.length := by omega
      have j3 : IntKind.i64.wrap ((j : Int) + 1) = (j : Int) + 1 := IntWalk.i64_in _ (by omega)
      obtain ⟨g, o, cc, hA, hG, hlt, x0, x1, x2, x3, x4⟩ := (HS.out.new HN2.out).at j hjl
      simp only [Value.slice.injEq] at hA
      obtain ⟨rfl, -, -⟩ := hA
      have hmem := List.getElem_mem hjl
      have hkk := (HK.out _ hmem).new HN2.out
      obtain ⟨es3, hes3, hseen3, -⟩ := hkk.inv
      obtain ⟨A4, c4, hkv⟩ := hseen3.form
      have hmem2 : es[j].d ∈ es.map El.d := List.mem_map.2 ⟨_, hmem, rfl⟩
      have hwk : es[j].d.wgt ≤ 200000 := Nat.le_trans (wgtL_mem _ hmem2) HWG.out
      have hcall := fun w' (hh : New wr w') => HIH.out es[j] hmem es[j].kv w' (hkk.new hh) (HM.out _ hmem2) hwk
      have hts := txt_size es[j].d (HM.out _ hmem2)
      have HGT := Lib.hid (getD_txt es j hjl)
      have HC := Lib.hid hcall
      generalize hV : es[j] = X at *
      obtain ⟨xd, xkv, xbs⟩ := X
      simp only at *
      subst hkv
      have htz : ((txtD xd).size : Int) ≤ 6000000 := by omega
      generalize hTX : txtD xd = TX at *
      clear hkk hes3 hseen3 hcall hmem hmem2 hV hts hwk hTX
      unfold datV at HC
      have q32 : (⟨#[32]⟩ : ByteArray).size = 1 := rfl
      have q46 : (⟨#[46, 32]⟩ : ByteArray).size = 2 := rfl
      by_cases hj0 : j = 0
      · have HJ0 := Lib.hid hj0
        have hjd : decide ((0 : Int) < (j : Int)) = false := decide_eq_false (by omega)
        have hjm : ¬ ((0 : Int) < (j : Int)) := by omega
        clear hj0
        have hnl : ¬ (true = true ∧ j + 1 = es.length) := fun h => by have h1 := h.2; have h2 := HJ0.out; omega
        have g1 : IntKind.i64.wrap ((es.length : Int) - 1) = (es.length : Int) - 1 := IntWalk.i64_in _ (by omega)
        have g2 : ((j : Int) == (es.length : Int) - 1) = false := by have h2 := HJ0.out; simp; omega
        have HPE := Lib.hid (pc_a ⟨#[40]⟩ ((es.map El.d).map txtD) es.length true j _ HGT.out HJ0.out hnl)
        clear hnl
        generalize ⟨#[40]⟩ ++ preT ((es.map El.d).map txtD) es.length true j = S at *
        go_wp2_with fail
        refine (HC.out _ (Upd.refl _ _)).mono ?_
        rintro e w5 ⟨rfl, hu5⟩
        have HU5 := Lib.hid hu5
        clear hu5
        go_wp2_with fail
        go_roundw
        case measure => simp [intOf]; omega
        case rel => exact ⟨HN2.out.trans HU5.out, j + 1, by omega, by simp, by rw [HPE.out]⟩
      · have hjp : 0 < j := by omega
        have hjq : (0 : Int) < (j : Int) := by omega
        have hjd : decide ((0 : Int) < (j : Int)) = true := decide_eq_true hjq
        clear hj0
        have g1 : IntKind.i64.wrap ((es.length : Int) - 1) = (es.length : Int) - 1 := IntWalk.i64_in _ (by omega)
        by_cases hla : j + 1 = es.length
        · have g2 : ((j : Int) == (es.length : Int) - 1) = true := by simp; omega
          have HPE := Lib.hid (pc_c ⟨#[40]⟩ ((es.map El.d).map txtD) es.length true j _ HGT.out hjp ⟨rfl, hla⟩)
          clear hla
          generalize ⟨#[40]⟩ ++ preT ((es.map El.d).map txtD) es.length true j = S at *
          go_wp2_with fail
          refine (HC.out _ (Upd.refl _ _)).mono ?_
          rintro e w5 ⟨rfl, hu5⟩
          have HU5 := Lib.hid hu5
          clear hu5
          go_wp2_with fail
          go_roundw
          case measure => simp [intOf]; omega
          case rel => exact ⟨HN2.out.trans HU5.out, j + 1, by omega, by simp, by rw [HPE.out]⟩
        · have g2 : ((j : Int) == (es.length : Int) - 1) = false := by simp; omega
          have HPE := Lib.hid (pc_b ⟨#[40]⟩ ((es.map El.d).map txtD) es.length true j _ HGT.out hjp (fun h => hla h.2))
          clear hla
          generalize ⟨#[40]⟩ ++ preT ((es.map El.d).map txtD) es.length true j = S at *
          go_wp2_with fail
          refine (HC.out _ (Upd.refl _ _)).mono ?_
          rintro e w5 ⟨rfl, hu5⟩
          have HU5 := Lib.hid hu5
          clear hu5
          go_wp2_with fail
          go_roundw
          case measure => simp [intOf]; omega
          case rel => exact ⟨HN2.out.trans HU5.out, j + 1, by omega, by simp, by rw [HPE.out]⟩
    · have j1 : ¬ (j : Int) < es.length := by omega
      obtain rfl : j = es.length := by omega
      have q41 : (⟨#[41]⟩ : ByteArray).size = 1 := rfl
      generalize ⟨#[40]⟩ ++ preT ((es.map El.d).map txtD) es.length true es.length = S at *
      go_wp2_with fail
      go_ret
      refine ⟨?_, HN.out.trans HN2.out⟩
      rw [← HR.out]; rfl
set_option maxHeartbeats 8000000 in
set_option maxRecDepth 20000 in
theorem Rtext_d (es : List El) (g0 o0 : Nat) (c : Nat) (ih : ∀ e ∈ es, RTEXT e.d) (w : World) (hseen : Seen w All (.slice (some ⟨g0, o0, none⟩) es.length c) es) (hks : ∀ e ∈ es, Sees w All e.kv e.d.kids) (hn : es.length ≤ 2000000) (hml : mayL (es.map El.d) = true) (hwg : wgtL (es.map El.d) ≤ 200000) (hq : es.length = 2) (hk0 : ∀ h : 0 < es.length, ((es[0].d.k : Int) == 2) = false) (R : ByteArray) (hR : ⟨#[40]⟩ ++ preT ((es.map El.d).map txtD) es.length false es.length ++ ⟨#[41]⟩ = R) :
    Calls Try.prog 77 #[.agg #[.int .u8 5, .int .i64 0, .string ⟨#[]⟩, .slice (some ⟨g0, o0, none⟩) es.length c, .bool false]] w fun e w' => e = .returned (.string R) ∧ New w w' := by
  have hbx := heap_alloc_new w (.cells #[.int .u8 5, .int .i64 0, .string ⟨#[]⟩, .slice (some ⟨g0, o0, none⟩) es.length c, .bool false] 58)
  have hup : New w (w.alloc (.cells #[.int .u8 5, .int .i64 0, .string ⟨#[]⟩, .slice (some ⟨g0, o0, none⟩) es.length c, .bool false] 58)) := (Upd.refl (fun _ => False) w).alloc _
  obtain ⟨⟨a0, a1, a2, a3, a4⟩, af⟩ := blk5 hbx
  have HN := Lib.hid hup
  have HB := Lib.hid hbx
  have HS := Lib.hid (hseen.new hup)
  have HK := Lib.hid (fun e he => (hks e he).new hup)
  have HIH := Lib.hid ih
  have HM := Lib.hid (mayL_mem hml)
  have hnI : (es.length : Int) ≤ 2000000 := by omega
  have HPS := Lib.hid (fun j hj => Nat.le_trans (preT_size (es.map El.d) (fun d hd => txt_size d (mayL_mem hml d hd)) es.length false j hj) (Nat.mul_le_mul_left 28 (wgtL_take (es.map El.d) j)))
  have HWG := Lib.hid hwg
  have HR := Lib.hid hR
  have hdl : 0 < es.length := by omega
  have hdl1 : (0 : Int) < es.length := by omega
  have hq1 : ((es.length : Int) == 2) = true := by simp; omega
  have HQ := Lib.hid hq
  obtain ⟨g', o', cc0, hA0, hGg0, hltg0, b0, b1, b2, b3, b4⟩ := (hseen.new hup).at 0 hdl
  simp only [Value.slice.injEq, Option.some.injEq, Addr.mk.injEq] at hA0
  obtain ⟨⟨rfl, rfl, -⟩, -, -⟩ := hA0
  simp only [Nat.zero_mul, Nat.add_zero] at b0 b1 b2 b3 b4
  have HSAVE := Lib.hid (hk0 hdl)
  generalize hF : es[0] = F at *
  have hk1 := HSAVE.out
  clear hF HSAVE hk0
  generalize F.d.k = fk at *
  clear hq
  clear hR hseen hks ih hbx hup hn hml hwg
  go_enter Try.func77, Try.ntmps77
  go_wp2_with fail
  generalize w.alloc (.cells #[.int .u8 5, .int .i64 0, .string ⟨#[]⟩, .slice (some ⟨g0, o0, none⟩) es.length c, .bool false] 58) = W at *
  clear a0 a1 a2 a3 a4 af
  go_loopw [3, 4] (fun sv i wr => New W wr ∧ ∃ j : Nat, j ≤ es.length ∧ i = .int .i64 j ∧ sv = .string (⟨#[40]⟩ ++ preT ((es.map El.d).map txtD) es.length false j)) (fun _ i _ => es.length - (intOf i).toNat)
  case atStart => exact ⟨Upd.refl (fun _ => False) W, 0, Nat.zero_le _, rfl, rfl⟩
  case round =>
    obtain ⟨hn, j, hj, rfl, rfl⟩ := hrel
    have HN2 := Lib.hid hn
    obtain ⟨⟨a0, a1, a2, a3, a4⟩, af⟩ := blk5 (hn.heap HB.out (fun x => x))
    clear hn
    have hSz : ((⟨#[40]⟩ ++ preT ((es.map El.d).map txtD) es.length false j).size : Int) ≤ 6000000 := by
      have h1 := HPS.out j (by rw [List.length_map]; exact hj)
      have h2 := HWG.out
      have e1 : (⟨#[40]⟩ : ByteArray).size = 1 := rfl
      rw [ByteArray.size_append]; omega
    by_cases hjl : j < es.length
    · have j0 : (0 : Int) ≤ j := by omega
      have j1 : (j : Int) < es.length := by omega
      have j3 : IntKind.i64.wrap ((j : Int) + 1) = (j : Int) + 1 := IntWalk.i64_in _ (by omega)
      obtain ⟨g, o, cc, hA, hG, hlt, x0, x1, x2, x3, x4⟩ := (HS.out.new HN2.out).at j hjl
      simp only [Value.slice.injEq, Option.some.injEq, Addr.mk.injEq] at hA
      obtain ⟨⟨rfl, rfl, -⟩, -, -⟩ := hA
      have hmem := List.getElem_mem hjl
      have hkk := (HK.out _ hmem).new HN2.out
      obtain ⟨es3, hes3, hseen3, -⟩ := hkk.inv
      obtain ⟨A4, c4, hkv⟩ := hseen3.form
      have hmem2 : es[j].d ∈ es.map El.d := List.mem_map.2 ⟨_, hmem, rfl⟩
      have hwk : es[j].d.wgt ≤ 200000 := Nat.le_trans (wgtL_mem _ hmem2) HWG.out
      have hcall := fun w' (hh : New wr w') => HIH.out es[j] hmem es[j].kv w' (hkk.new hh) (HM.out _ hmem2) hwk
      have hts := txt_size es[j].d (HM.out _ hmem2)
      have HGT := Lib.hid (getD_txt es j hjl)
      have HC := Lib.hid hcall
      generalize hV : es[j] = X at *
      obtain ⟨xd, xkv, xbs⟩ := X
      simp only at *
      subst hkv
      have htz : ((txtD xd).size : Int) ≤ 6000000 := by omega
      generalize hTX : txtD xd = TX at *
      clear hkk hes3 hseen3 hcall hmem hmem2 hV hts hwk hTX
      unfold datV at HC
      have q32 : (⟨#[32]⟩ : ByteArray).size = 1 := rfl
      have q46 : (⟨#[46, 32]⟩ : ByteArray).size = 2 := rfl
      by_cases hj0 : j = 0
      · have HJ0 := Lib.hid hj0
        have hjd : decide ((0 : Int) < (j : Int)) = false := decide_eq_false (by omega)
        have hjm : ¬ ((0 : Int) < (j : Int)) := by omega
        clear hj0
        have HPE := Lib.hid (pc_a ⟨#[40]⟩ ((es.map El.d).map txtD) es.length false j _ HGT.out HJ0.out (fun h => by have := h.1; cases this))
        generalize ⟨#[40]⟩ ++ preT ((es.map El.d).map txtD) es.length false j = S at *
        go_wp2_with fail
        refine (HC.out _ (Upd.refl _ _)).mono ?_
        rintro e w5 ⟨rfl, hu5⟩
        have HU5 := Lib.hid hu5
        clear hu5
        go_wp2_with fail
        go_roundw
        case measure => simp [intOf]; omega
        case rel => exact ⟨HN2.out.trans HU5.out, j + 1, by omega, by simp, by rw [HPE.out]⟩
      · have hjp : 0 < j := by omega
        have hjq : (0 : Int) < (j : Int) := by omega
        have hjd : decide ((0 : Int) < (j : Int)) = true := decide_eq_true hjq
        clear hj0
        have HPE := Lib.hid (pc_b ⟨#[40]⟩ ((es.map El.d).map txtD) es.length false j _ HGT.out hjp (fun h => by have := h.1; cases this))
        generalize ⟨#[40]⟩ ++ preT ((es.map El.d).map txtD) es.length false j = S at *
        go_wp2_with fail
        refine (HC.out _ (Upd.refl _ _)).mono ?_
        rintro e w5 ⟨rfl, hu5⟩
        have HU5 := Lib.hid hu5
        clear hu5
        go_wp2_with fail
        go_roundw
        case measure => simp [intOf]; omega
        case rel => exact ⟨HN2.out.trans HU5.out, j + 1, by omega, by simp, by rw [HPE.out]⟩
    · have j1 : ¬ (j : Int) < es.length := by omega
      obtain rfl : j = es.length := by omega
      have q41 : (⟨#[41]⟩ : ByteArray).size = 1 := rfl
      generalize ⟨#[40]⟩ ++ preT ((es.map El.d).map txtD) es.length false es.length = S at *
      go_wp2_with fail
      go_ret
      refine ⟨?_, HN.out.trans HN2.out⟩
      rw [← HR.out]; rfl
set_option maxHeartbeats 8000000 in
set_option maxRecDepth 20000 in
theorem Rtext_e (es : List El) (g0 o0 : Nat) (c : Nat) (ih : ∀ e ∈ es, RTEXT e.d) (w : World) (hseen : Seen w All (.slice (some ⟨g0, o0, none⟩) es.length c) es) (hks : ∀ e ∈ es, Sees w All e.kv e.d.kids) (hn : es.length ≤ 2000000) (hml : mayL (es.map El.d) = true) (hwg : wgtL (es.map El.d) ≤ 200000) (hq : es.length = 2) (hk0 : ∀ h : 0 < es.length, ((es[0].d.k : Int) == 2) = true ∧ (es[0].d.t.toList == [113, 117, 111, 116, 101]) = false) (R : ByteArray) (hR : ⟨#[40]⟩ ++ preT ((es.map El.d).map txtD) es.length false es.length ++ ⟨#[41]⟩ = R) :
    Calls Try.prog 77 #[.agg #[.int .u8 5, .int .i64 0, .string ⟨#[]⟩, .slice (some ⟨g0, o0, none⟩) es.length c, .bool false]] w fun e w' => e = .returned (.string R) ∧ New w w' := by
  have hbx := heap_alloc_new w (.cells #[.int .u8 5, .int .i64 0, .string ⟨#[]⟩, .slice (some ⟨g0, o0, none⟩) es.length c, .bool false] 58)
  have hup : New w (w.alloc (.cells #[.int .u8 5, .int .i64 0, .string ⟨#[]⟩, .slice (some ⟨g0, o0, none⟩) es.length c, .bool false] 58)) := (Upd.refl (fun _ => False) w).alloc _
  obtain ⟨⟨a0, a1, a2, a3, a4⟩, af⟩ := blk5 hbx
  have HN := Lib.hid hup
  have HB := Lib.hid hbx
  have HS := Lib.hid (hseen.new hup)
  have HK := Lib.hid (fun e he => (hks e he).new hup)
  have HIH := Lib.hid ih
  have HM := Lib.hid (mayL_mem hml)
  have hnI : (es.length : Int) ≤ 2000000 := by omega
  have HPS := Lib.hid (fun j hj => Nat.le_trans (preT_size (es.map El.d) (fun d hd => txt_size d (mayL_mem hml d hd)) es.length false j hj) (Nat.mul_le_mul_left 28 (wgtL_take (es.map El.d) j)))
  have HWG := Lib.hid hwg
  have HR := Lib.hid hR
  have hdl : 0 < es.length := by omega
  have hdl1 : (0 : Int) < es.length := by omega
  have hq1 : ((es.length : Int) == 2) = true := by simp; omega
  have HQ := Lib.hid hq
  obtain ⟨g', o', cc0, hA0, hGg0, hltg0, b0, b1, b2, b3, b4⟩ := (hseen.new hup).at 0 hdl
  simp only [Value.slice.injEq, Option.some.injEq, Addr.mk.injEq] at hA0
  obtain ⟨⟨rfl, rfl, -⟩, -, -⟩ := hA0
  simp only [Nat.zero_mul, Nat.add_zero] at b0 b1 b2 b3 b4
  have HSAVE := Lib.hid (hk0 hdl)
  generalize hF : es[0] = F at *
  have hk1 := HSAVE.out
  clear hF HSAVE hk0
  generalize F.d.k = fk at *
  generalize F.d.t = ft at *
  obtain ⟨hk2, hk3⟩ := hk1
  clear hq
  clear hR hseen hks ih hbx hup hn hml hwg
  go_enter Try.func77, Try.ntmps77
  go_wp2_with fail
  generalize w.alloc (.cells #[.int .u8 5, .int .i64 0, .string ⟨#[]⟩, .slice (some ⟨g0, o0, none⟩) es.length c, .bool false] 58) = W at *
  clear a0 a1 a2 a3 a4 af
  go_loopw [3, 4] (fun sv i wr => New W wr ∧ ∃ j : Nat, j ≤ es.length ∧ i = .int .i64 j ∧ sv = .string (⟨#[40]⟩ ++ preT ((es.map El.d).map txtD) es.length false j)) (fun _ i _ => es.length - (intOf i).toNat)
  case atStart => exact ⟨Upd.refl (fun _ => False) W, 0, Nat.zero_le _, rfl, rfl⟩
  case round =>
    obtain ⟨hn, j, hj, rfl, rfl⟩ := hrel
    have HN2 := Lib.hid hn
    obtain ⟨⟨a0, a1, a2, a3, a4⟩, af⟩ := blk5 (hn.heap HB.out (fun x => x))
    clear hn
    have hSz : ((⟨#[40]⟩ ++ preT ((es.map El.d).map txtD) es.length false j).size : Int) ≤ 6000000 := by
      have h1 := HPS.out j (by rw [List.length_map]; exact hj)
      have h2 := HWG.out
      have e1 : (⟨#[40]⟩ : ByteArray).size = 1 := rfl
      rw [ByteArray.size_append]; omega
    by_cases hjl : j < es.length
    · have j0 : (0 : Int) ≤ j := by omega
      have j1 : (j : Int) < es.length := by omega
      have j3 : IntKind.i64.wrap ((j : Int) + 1) = (j : Int) + 1 := IntWalk.i64_in _ (by omega)
      obtain ⟨g, o, cc, hA, hG, hlt, x0, x1, x2, x3, x4⟩ := (HS.out.new HN2.out).at j hjl
      simp only [Value.slice.injEq, Option.some.injEq, Addr.mk.injEq] at hA
      obtain ⟨⟨rfl, rfl, -⟩, -, -⟩ := hA
      have hmem := List.getElem_mem hjl
      have hkk := (HK.out _ hmem).new HN2.out
      obtain ⟨es3, hes3, hseen3, -⟩ := hkk.inv
      obtain ⟨A4, c4, hkv⟩ := hseen3.form
      have hmem2 : es[j].d ∈ es.map El.d := List.mem_map.2 ⟨_, hmem, rfl⟩
      have hwk : es[j].d.wgt ≤ 200000 := Nat.le_trans (wgtL_mem _ hmem2) HWG.out
      have hcall := fun w' (hh : New wr w') => HIH.out es[j] hmem es[j].kv w' (hkk.new hh) (HM.out _ hmem2) hwk
      have hts := txt_size es[j].d (HM.out _ hmem2)
      have HGT := Lib.hid (getD_txt es j hjl)
      have HC := Lib.hid hcall
      generalize hV : es[j] = X at *
      obtain ⟨xd, xkv, xbs⟩ := X
      simp only at *
      subst hkv
      have htz : ((txtD xd).size : Int) ≤ 6000000 := by omega
      generalize hTX : txtD xd = TX at *
      clear hkk hes3 hseen3 hcall hmem hmem2 hV hts hwk hTX
      unfold datV at HC
      have q32 : (⟨#[32]⟩ : ByteArray).size = 1 := rfl
      have q46 : (⟨#[46, 32]⟩ : ByteArray).size = 2 := rfl
      by_cases hj0 : j = 0
      · have HJ0 := Lib.hid hj0
        have hjd : decide ((0 : Int) < (j : Int)) = false := decide_eq_false (by omega)
        have hjm : ¬ ((0 : Int) < (j : Int)) := by omega
        clear hj0
        have HPE := Lib.hid (pc_a ⟨#[40]⟩ ((es.map El.d).map txtD) es.length false j _ HGT.out HJ0.out (fun h => by have := h.1; cases this))
        generalize ⟨#[40]⟩ ++ preT ((es.map El.d).map txtD) es.length false j = S at *
        go_wp2_with fail
        refine (HC.out _ (Upd.refl _ _)).mono ?_
        rintro e w5 ⟨rfl, hu5⟩
        have HU5 := Lib.hid hu5
        clear hu5
        go_wp2_with fail
        go_roundw
        case measure => simp [intOf]; omega
        case rel => exact ⟨HN2.out.trans HU5.out, j + 1, by omega, by simp, by rw [HPE.out]⟩
      · have hjp : 0 < j := by omega
        have hjq : (0 : Int) < (j : Int) := by omega
        have hjd : decide ((0 : Int) < (j : Int)) = true := decide_eq_true hjq
        clear hj0
        have HPE := Lib.hid (pc_b ⟨#[40]⟩ ((es.map El.d).map txtD) es.length false j _ HGT.out hjp (fun h => by have := h.1; cases this))
        generalize ⟨#[40]⟩ ++ preT ((es.map El.d).map txtD) es.length false j = S at *
        go_wp2_with fail
        refine (HC.out _ (Upd.refl _ _)).mono ?_
        rintro e w5 ⟨rfl, hu5⟩
        have HU5 := Lib.hid hu5
        clear hu5
        go_wp2_with fail
        go_roundw
        case measure => simp [intOf]; omega
        case rel => exact ⟨HN2.out.trans HU5.out, j + 1, by omega, by simp, by rw [HPE.out]⟩
    · have j1 : ¬ (j : Int) < es.length := by omega
      obtain rfl : j = es.length := by omega
      have q41 : (⟨#[41]⟩ : ByteArray).size = 1 := rfl
      generalize ⟨#[40]⟩ ++ preT ((es.map El.d).map txtD) es.length false es.length = S at *
      go_wp2_with fail
      go_ret
      refine ⟨?_, HN.out.trans HN2.out⟩
      rw [← HR.out]; rfl
set_option maxHeartbeats 4000000 in
set_option maxRecDepth 20000 in
theorem Rtext_q (a b : El) (g0 o0 c : Nat) (ih : RTEXT b.d) (ha : a.d.k = 2) (ha2 : a.d.t = quoteT) (w : World) (hseen : Seen w All (.slice (some ⟨g0, o0, none⟩) 2 c) [a, b]) (hks : Sees w All b.kv b.d.kids) (hm : mayD b.d = true) (hwg : b.d.wgt ≤ 200000) :
    Calls Try.prog 77 #[.agg #[.int .u8 5, .int .i64 0, .string ⟨#[]⟩, .slice (some ⟨g0, o0, none⟩) 2 c, .bool false]] w fun e w' => e = .returned (.string (⟨#[39]⟩ ++ txtD b.d)) ∧ New w w' := by
  have hup : New w (w.alloc (.cells #[.int .u8 5, .int .i64 0, .string ⟨#[]⟩, .slice (some ⟨g0, o0, none⟩) 2 c, .bool false] 58)) := (Upd.refl (fun _ => False) w).alloc _
  obtain ⟨⟨a0, a1, a2, a3, a4⟩, af⟩ := blk5 (heap_alloc_new w (.cells #[.int .u8 5, .int .i64 0, .string ⟨#[]⟩, .slice (some ⟨g0, o0, none⟩) 2 c, .bool false] 58))
  obtain ⟨g, o, cc, hA, hGg, hltg, x0, x1, x2, x3, x4⟩ := (hseen.new hup).at 0 (by simp)
  obtain ⟨g2, o2, cc2, hA2, hGg2, hltg2, y0, y1, y2, y3, y4⟩ := (hseen.new hup).at 1 (by simp)
  simp only [List.length_cons, List.length_nil, Nat.zero_add, Value.slice.injEq, Option.some.injEq, Addr.mk.injEq, true_and] at hA hA2
  obtain ⟨⟨rfl, rfl, -⟩, -⟩ := hA
  obtain ⟨⟨rfl, rfl, -⟩, -⟩ := hA2
  simp only [List.getElem_cons_zero, List.getElem_cons_succ, Nat.zero_mul, Nat.add_zero, Nat.one_mul, ha, ha2] at x0 x1 x2 x3 x4 y0 y1 y2 y3 y4
  have hq : (quoteT.toList == [113, 117, 111, 116, 101]) = true := by kernel_rfl
  obtain ⟨es3, hes3, hseen3, -⟩ := hks.inv
  obtain ⟨A4, c4, hkv⟩ := hseen3.form
  have hcall := ih b.kv _ (hks.new hup) hm hwg
  have hts := txt_size b.d hm
  have htz : ((txtD b.d).size : Int) ≤ 6000000 := by omega
  have q39 : (⟨#[39]⟩ : ByteArray).size = 1 := rfl
  have HN := Lib.hid hup
  have HC := Lib.hid hcall
  unfold datV at HC
  rw [hkv] at y3 HC
  generalize es3.length = N4 at *
  generalize txtD b.d = TX at *
  clear hcall hup hseen hks hes3 hseen3 hkv hts hm hwg ih hGg hGg2 hltg hltg2
  go_enter Try.func77, Try.ntmps77
  go_wp2_with fail
  refine HC.out.mono ?_
  rintro e w5 ⟨rfl, hu5⟩
  have HU5 := Lib.hid (HN.out.trans hu5)
  clear hu5
  go_wp2_with fail
  go_ret
  exact ⟨rfl, HU5.out⟩
set_option maxHeartbeats 4000000 in
set_option maxRecDepth 20000 in
theorem Rtext_leaf (k n : Int) (t : ByteArray) (A : Option Addr) (c : Nat) (w : World) (h5 : k ≠ 5) (hm : mayD (.mk k n t [] false) = true) : Calls Try.prog 77 #[.agg #[.int .u8 k, .int .i64 n, .string t, .slice A 0 c, .bool false]] w fun e w' => e = .returned (.string (txtD (.mk k n t [] false))) ∧ New w w' := by
  have hup : New w (w.alloc (.cells #[.int .u8 k, .int .i64 n, .string t, .slice A 0 c, .bool false] 58)) := (Upd.refl (fun _ => False) w).alloc _
  obtain ⟨⟨a0, a1, a2, a3, a4⟩, af⟩ := blk5 (heap_alloc_new w (.cells #[.int .u8 k, .int .i64 n, .string t, .slice A 0 c, .bool false] 58))
  have HN := Lib.hid hup
  obtain ⟨-, -, hk4, hk1, hn0, hk2, hk34⟩ := mayD_leaf hm h5
  clear hup hm h5
  rcases hk4 with rfl | rfl | rfl | rfl
  · obtain ⟨-, n1, n2⟩ := hk1 rfl
    rw [txtD, if_pos rfl]
    have HD := Lib.hid (fun w => Rdigits_calls n n1 (by omega) w)
    clear hk1 hn0 hk2 hk34 n1 n2
    go_enter Try.func77, Try.ntmps77
    go_wp2_with fail
    refine (HD.out _).mono ?_
    rintro e w5 ⟨rfl, hu5⟩
    have HU5 := Lib.hid (HN.out.trans hu5)
    clear hu5
    go_wp2_with fail
    go_ret
    exact ⟨rfl, HU5.out⟩
  · rw [txtD, if_neg (by decide), if_pos rfl]
    clear hk1 hn0 hk2 hk34
    go_enter Try.func77, Try.ntmps77
    go_wp2_with fail
    go_ret
    exact ⟨rfl, HN.out⟩
  · rw [txtD, if_neg (by decide), if_neg (by decide), if_pos rfl]
    clear hk1 hn0 hk2 hk34
    go_enter Try.func77, Try.ntmps77
    go_wp2_with fail
    go_ret
    exact ⟨rfl, HN.out⟩
  · rw [txtD, if_neg (by decide), if_neg (by decide), if_neg (by decide), if_pos rfl]
    clear hk1 hn0 hk2 hk34
    go_enter Try.func77, Try.ntmps77
    go_wp2_with fail
    go_ret
    exact ⟨rfl, HN.out⟩
/-- The reference's text of any datum. -/
theorem Rtext_calls : ∀ d, RTEXT d := by
  intro d
  induction d using Dat.ind with
  | h k n t l dot ih =>
    intro kv w hs hm hwg
    simp only [Dat.kids] at hs
    by_cases h5 : k = 5
    · subst h5
      obtain ⟨-, rfl, rfl, hml, hmd⟩ := mayD_list hm (by decide) (by decide) (by decide) (by decide)
      rw [Dat.wgt] at hwg
      obtain ⟨es, rfl, hseen, hn, hks⟩ := hs.inv
      have hih : ∀ e ∈ es, RTEXT e.d := fun e he => ih e.d (List.mem_map.2 ⟨e, he, rfl⟩)
      obtain ⟨A, c, rfl⟩ := hseen.form
      have hlenm : (es.map El.d).length = es.length := List.length_map _
      show Calls Try.prog 77 #[.agg #[.int .u8 5, .int .i64 0, .string ⟨#[]⟩, .slice A es.length c, .bool dot]] w _
      have hTT : isQ (es.map El.d) dot = false → ⟨#[40]⟩ ++ preT ((es.map El.d).map txtD) es.length dot es.length ++ ⟨#[41]⟩ = txtD (.mk 5 0 ⟨#[]⟩ (es.map El.d) dot) := fun h => by
        rw [txt_list _ _ _ _ h, hlenm]
      have hwg2 : wgtL (es.map El.d) ≤ 200000 := by omega
      by_cases h2 : es.length = 2
      · cases dot with
        | true => exact Rtext_c es A c hih w hseen hks hn hml hwg2 h2 _ (hTT (by simp [isQ]))
        | false =>
          match es, h2 with
          | [a, b], _ =>
            obtain ⟨g0, o0, c0, hA, -⟩ := hseen.at 0 (by simp)
            simp only [List.length_cons, List.length_nil, Value.slice.injEq] at hA
            obtain ⟨rfl, -, -⟩ := hA
            by_cases hk : a.d.k = 2
            · by_cases ht : a.d.t = quoteT
              · have hb := mayL_mem hml b.d (by simp)
                have hbw := wgtL_mem (l := [a, b].map El.d) b.d (by simp)
                have := Rtext_q a b g0 o0 c (hih b (by simp)) hk ht w hseen (hks b (by simp)) hb (by omega)
                rw [← txt_quote 0 ⟨#[]⟩ a.d b.d hk ht] at this
                exact this
              · refine Rtext_e [a, b] g0 o0 c hih w hseen hks hn hml hwg2 rfl (fun h => ⟨by simp [hk], ?_⟩) _ (hTT (by simp [isQ, ht]))
                rw [beq_eq_false_iff_ne, ← quote_list]
                exact fun e => ht (toList_inj e)
            · exact Rtext_d [a, b] g0 o0 c hih w hseen hks hn hml hwg2 rfl (fun h => by simp [hk]) _ (hTT (by simp [isQ, hk]))
      · cases dot with
        | true => exact Rtext_b es A c hih w hseen hks hn hml hwg2 h2 (by have := (hmd rfl).1; omega) _ (hTT (by simp [isQ]))
        | false => exact Rtext_a es A c hih w hseen hks hn hml hwg2 h2 _ (hTT (by simp [isQ, h2]))
    · obtain ⟨rfl, rfl, -⟩ := mayD_leaf hm h5
      obtain ⟨es, hes, hseen, -⟩ := hs.inv
      obtain ⟨A, c, rfl⟩ := hseen.form
      have : es = [] := by cases es with | nil => rfl | cons _ _ => simp at hes
      subst this
      exact Rtext_leaf k n t A c w h5 hm
end Go.Proofs.Ytnnjhafjcdjobaa
