/- Read: a list's loop, written: plain parts. Read: a list's loop, written: no tail, not of two. Read: a list's loop, written: a tail, not of two. Read: a list's loop, written: a tail, of two. Read: a list's loop, written: no tail, of two, the first is no symbol. Read: a list's loop, written: no tail, of two, the first is another symbol. -/
import Derived.Test.YtnnjhafjcdjobaaWrG
namespace Go.Proofs.Ytnnjhafjcdjobaa
open Go.RowKit
set_option linter.unusedVariables false
set_option linter.unusedSimpArgs false

theorem piece_a (s c : ByteArray) (ts : List ByteArray) (len : Nat) (dot : Bool) (j : Nat) (t : ByteArray) (h : ts.getD j ⟨#[]⟩ = t) (hj : j = 0) (hd : ¬ (dot = true ∧ j + 1 = len)) : s ++ (c ++ preT ts len dot (j + 1)) = (s ++ (c ++ preT ts len dot j)) ++ t := by
  have e : (⟨#[]⟩ : ByteArray) ++ ⟨#[]⟩ ++ t = t := ByteArray.ext (by simp)
  rw [preT, piece, if_neg (by omega), if_neg hd, h, e]
  simp only [ByteArray.append_assoc]
theorem piece_b (s c : ByteArray) (ts : List ByteArray) (len : Nat) (dot : Bool) (j : Nat) (t : ByteArray) (h : ts.getD j ⟨#[]⟩ = t) (hj : 0 < j) (hd : ¬ (dot = true ∧ j + 1 = len)) : s ++ (c ++ preT ts len dot (j + 1)) = ((s ++ (c ++ preT ts len dot j)) ++ ⟨#[32]⟩) ++ t := by
  have e : (⟨#[32]⟩ : ByteArray) ++ ⟨#[]⟩ ++ t = ⟨#[32]⟩ ++ t := ByteArray.ext (by simp)
  rw [preT, piece, if_pos hj, if_neg hd, h, e]
  simp only [ByteArray.append_assoc]
theorem piece_c (s c : ByteArray) (ts : List ByteArray) (len : Nat) (dot : Bool) (j : Nat) (t : ByteArray) (h : ts.getD j ⟨#[]⟩ = t) (hj : 0 < j) (hd : dot = true ∧ j + 1 = len) : s ++ (c ++ preT ts len dot (j + 1)) = (((s ++ (c ++ preT ts len dot j)) ++ ⟨#[32]⟩) ++ ⟨#[46, 32]⟩) ++ t := by
  rw [preT, piece, if_pos hj, if_pos hd, h]
  simp only [ByteArray.append_assoc]
theorem getD_txt (es : List El) (j : Nat) (h : j < es.length) : ((es.map El.d).map txtD).getD j ⟨#[]⟩ = txtD es[j].d := by
  rw [List.getD_eq_getElem?_getD, List.getElem?_map, List.getElem?_map, List.getElem?_eq_getElem h]; rfl
theorem putpost_pre {d : Dat} {w w1 w7 : World} {base wb : Nat} {m : Int} {s : ByteArray} {v : Value} {e : Ending} (hn : New w w1) (h : PutPost d w1 base wb m s v e w7) : PutPost d w base wb m s v e w7 := by
  rcases h with ⟨h1, h2, h3⟩ | ⟨h1, h2, h3⟩
  · exact .inl ⟨h1, h2, h3.pre hn⟩
  · exact .inr ⟨h1, h2, (hn.mono fun _ _ x => x.elim).trans' h3 (fun b hb e => by
      rcases e with e | e | e
      · exact .inl e
      · exact .inr (.inl e)
      · exact .inr (.inr (Nat.le_trans hn.size e)))⟩
theorem wrote_cat {w w5 w6 : World} {wb : Nat} {v v' v2 : Value} (hu : Upd (fun b => b = wb ∨ v.ownBlock = some b) w w5) (hv : v'.ownBlock = v.ownBlock ∨ ∀ b, v'.ownBlock = some b → w.heap.size ≤ b) (h2 : Upd (fun b => b = wb ∨ v'.ownBlock = some b) w5 w6) (h3 : v2.ownBlock = v'.ownBlock ∨ ∀ b, v2.ownBlock = some b → w5.heap.size ≤ b) :
    Upd (fun b => b = wb ∨ v.ownBlock = some b) w w6 ∧ (v2.ownBlock = v.ownBlock ∨ ∀ b, v2.ownBlock = some b → w.heap.size ≤ b) := by
  refine ⟨hu.trans' h2 (fun b hb e => ?_), ?_⟩
  · rcases e with e | e
    · exact .inl e
    · rcases hv with e2 | e2
      · exact .inr (e2 ▸ e)
      · have := e2 b e; omega
  · rcases h3 with e | e
    · rw [e]; exact hv
    · exact .inr fun b hb => Nat.le_trans hu.size (e b hb)
/-- At the end of a way that ran over. -/
theorem over_end {w w6 w7 : World} {base wb : Nat} {m : Int} {s S6 : ByteArray} {v v6 : Value} {d : Dat} {x : Nat} (hu : Upd (fun b => b = wb ∨ v.ownBlock = some b) w w6) (hv : v6.ownBlock = v.ownBlock ∨ ∀ b, v6.ownBlock = some b → w.heap.size ≤ b) (h : Upd (fun b => b = wb ∨ v6.ownBlock = some b ∨ w6.heap.size ≤ b) w6 w7)
    (h1 : 65536 < S6.size + x) (h2 : S6.size + x ≤ s.size + (txtD d).size) : PutPost d w base wb m s v (.returned (.bool false)) w7 :=
  .inr ⟨by omega, rfl, upd_trans hu hv h⟩
end Go.Proofs.Ytnnjhafjcdjobaa

namespace Go.Proofs.Ytnnjhafjcdjobaa
open Go.RowKit
set_option linter.unusedVariables false
set_option linter.unusedSimpArgs false

set_option maxHeartbeats 8000000 in
set_option maxRecDepth 20000 in
theorem list_loop_a (n : Int) (t : ByteArray) (es : List El) (A : Option Addr) (c : Nat) (ih : ∀ e ∈ es, WRITES 80 e.d) (G : Nat → Prop) (base wb : Nat) (m : Int) (s : ByteArray) (v : Value) (w : World) (hs : Seen w G (.slice A es.length c) es) (hks : ∀ e ∈ es, Sees w G e.kv e.d.kids) (hn : es.length ≤ 2000000)
    (hGb : ∀ b, G b → b < w.heap.size) (hG : ¬ G wb) (hGv : ∀ b, v.ownBlock = some b → ¬ G b) (hx : Txt w base wb m s v) (hb : base ≤ w.heap.size) (hss : s.size ≤ 2000000) (hhg : ∀ e ∈ es, s.size + 4 + 4 * e.d.hgt ≤ 2000000 ∧ e.d.hgt ≤ 70000) (hwee : weeL (es.map El.d)) (hmay : mayL (es.map El.d) = true) (hq : es.length ≠ 2)
    (hT : txtD (.mk 5 n t (es.map El.d) false) = ⟨#[40]⟩ ++ preT ((es.map El.d).map txtD) es.length false es.length ++ ⟨#[41]⟩) :
    Calls Try.prog 110 #[.pointer (some ⟨wb, 0, none⟩), .agg #[.int .u8 5, .int .i64 n, .string t, .slice A es.length c, .bool false]] w (PutPost (.mk 5 n t (es.map El.d) false) w base wb m s v) := by
  obtain ⟨i0, hi0, hz0, hz1, hz2⟩ := info_parts info5
  obtain ⟨⟨c0, c1⟩, ⟨cf0, cf1⟩, hlt⟩ := wtr_cells hx.1
  obtain ⟨A2, c2, rfl⟩ := own_form hx.2.1
  have m3 : s.size + 1 ≤ maxLen := by unfold maxLen; omega
  have m4 : (s.size + 1) * 1 ≤ 140737488355328 := by omega
  have hn1 : New w (w.alloc (.cells #[.int .u8 5, .int .i64 n, .string t, .slice A es.length c, .bool false] 58)) := (Upd.refl (fun _ => False) w).alloc _
  suffices hsuf : Calls Try.prog 110 #[.pointer (some ⟨wb, 0, none⟩), .agg #[.int .u8 5, .int .i64 n, .string t, .slice A es.length c, .bool false]] w (PutPost (.mk 5 n t (es.map El.d) false) (w.alloc (.cells #[.int .u8 5, .int .i64 n, .string t, .slice A es.length c, .bool false] 58)) base wb m s (.slice A2 s.size c2)) from hsuf.mono fun e w' h => putpost_pre hn1 h
  have HX := Lib.hid (hx.new hn1)
  have M3 := Lib.hid m3
  have M4 := Lib.hid m4
  have hq1 : ((es.length : Int) == 2) = false := by simp; omega
  clear hq
  have HGv := Lib.hid hGv
  have hvl : ∀ q, (Value.slice A2 s.size c2).ownBlock = some q → q < w.heap.size := fun q hq => (own_lt hx.2.1 q hq).2
  have HVL := Lib.hid hvl
  have HS := Lib.hid (hs.new hn1)
  have HKS := Lib.hid (fun e he => (hks e he).new hn1)
  have HN1 := Lib.hid hn1
  have hbx := heap_alloc_new w (.cells #[.int .u8 5, .int .i64 n, .string t, .slice A es.length c, .bool false] 58)
  have HBX := Lib.hid hbx
  have HT := Lib.hid hT
  have HW := Lib.hid (weeL_mem hwee)
  have HM := Lib.hid (mayL_mem hmay)
  have HIH := Lib.hid ih
  have HHG := Lib.hid hhg
  have HGB := Lib.hid hGb
  have HZ1 : Hid ((w.alloc (.cells #[.int .u8 5, .int .i64 n, .string t, .slice A es.length c, .bool false] 58)).heap.size = w.heap.size + 1) := Lib.hid (by simp)
  clear hGv hvl hs hks hn1 hx hbx m3 m4 hT hwee hmay ih hGb hhg
  go_enter Try.func110, Try.ntmps110
  go_upto_region 5 with (at_builtin; refine wpList_append_row ((w.alloc (.cells #[.int .u8 5, .int .i64 n, .string t, .slice A es.length c, .bool false] 58)).alloc (.cells #[.int .u8 40] 5)) (by rfl) (.tmp 51) (.tmp 52) 133 (by rfl) base 5 i0 _ 1 1 Try.underlying133 hi0 hz0 hz1 hz2 rfl (by decide) (.slice A2 s.size c2) s.size (Lib.strCells s) (by rfl) (HX.out.2.1.alloc (.cells #[.int .u8 40] 5)) (.slice (some ⟨w.heap.size + 1, 0, none⟩) 1 1) 1 [.int .u8 40] (by rfl) (.inr ⟨w.heap.size + 1, 1, rfl, rfl, World.news_of_block (alloc2 w (.cells #[.int .u8 5, .int .i64 n, .string t, .slice A es.length c, .bool false] 58) (.cells #[.int .u8 40] 5))⟩) (byte_one 40) M3.out M4.out (by simp; omega) ?_; intro v1 w4 ho4 hg4 hat4; obtain ⟨A3, c3, rfl⟩ := own_form ho4; have hwr := wrote_byte (c := 40) (.cells #[.int .u8 40] 5) HX.out ho4 hg4 hat4; obtain ⟨⟨z0, z1⟩, ⟨zf0, zf1⟩, zlt⟩ := wtr_cells (wtr_grown (HX.out.new ((Upd.refl (fun _ => False) (w.alloc (.cells #[.int .u8 5, .int .i64 n, .string t, .slice A es.length c, .bool false] 58))).alloc (.cells #[.int .u8 40] 5))) hg4); have hz9 := (wtr_cells (wtr_put (bv' := .slice A3 (s.size + 1) c3) (wtr_grown (HX.out.new ((Upd.refl (fun _ => False) (w.alloc (.cells #[.int .u8 5, .int .i64 n, .string t, .slice A es.length c, .bool false] 58))).alloc (.cells #[.int .u8 40] 5))) hg4))).1.1; have HWR := Lib.hid hwr; clear ho4 hg4 hat4 hwr)
  generalize w4.setCell ⟨wb, 0, none⟩ (.slice A3 (s.size + 1) c3) = W5 at *
  have hfG : ∀ q, G q → ¬ (q = wb ∨ (Value.slice A2 s.size c2).ownBlock = some q) := fun q hq e => by
    rcases e with e | e
    · exact hG (e ▸ hq)
    · exact HGv.out q e hq
  have hHne : ¬ (w.heap.size = wb ∨ (Value.slice A2 s.size c2).ownBlock = some w.heap.size) := fun e => by
    rcases e with e | e
    · omega
    · have := HVL.out _ e; omega
  have hbx5 : W5.heap[w.heap.size]? = some (.cells #[.int .u8 5, .int .i64 n, .string t, .slice A es.length c, .bool false] 58 (0, 0)) := by
    obtain ⟨v', _, hu5, _⟩ := HWR.out
    exact hu5.heap HBX.out hHne
  obtain ⟨⟨e0, e1, e2, e3, e4⟩, ef⟩ := blk5 hbx5
  have HBX5 := Lib.hid hbx5
  have HFG := Lib.hid hfG
  clear hbx5 z0 z1 zf0 zf1 zlt hz9 c0 c1 cf0 cf1 hfG hHne
  go_wp2_with fail
  have hszI : (es.length : Int) ≤ 2000000 := by omega
  go_loopw [59] (fun i wr => ∃ j : Nat, j ≤ es.length ∧ i = .int .i64 j ∧ Sofar (w.alloc (.cells #[.int .u8 5, .int .i64 n, .string t, .slice A es.length c, .bool false] 58)) base wb m (s ++ (⟨#[40]⟩ ++ preT ((es.map El.d).map txtD) es.length false j)) (.slice A2 s.size c2) wr ∧ wr.heap[w.heap.size]? = some (.cells #[.int .u8 5, .int .i64 n, .string t, .slice A es.length c, .bool false] 58 (0, 0)) ∧ s.size + (1 + (preT ((es.map El.d).map txtD) es.length false j).size) ≤ 2000001 ∧ (0 < j → s.size + (1 + (preT ((es.map El.d).map txtD) es.length false j).size) ≤ 65536)) (fun i _ => es.length - (intOf i).toNat)
  case atStart =>
    have e1 : (⟨#[40]⟩ : ByteArray) ++ preT ((es.map El.d).map txtD) es.length false 0 = ⟨#[40]⟩ := rfl
    have e2 : (preT ((es.map El.d).map txtD) es.length false 0).size = 0 := rfl
    exact ⟨0, Nat.zero_le _, rfl, (by rw [e1]; exact HWR.out), HBX5.out, (by omega), (by omega)⟩
  case round =>
    obtain ⟨j, hj, rfl, hsf, hbxr, hsz, hszp⟩ := hrel
    have HSZP := Lib.hid hszp
    clear hszp
    by_cases hjl : j < es.length
    · obtain ⟨v', htx, hu, hv⟩ := hsf
      obtain ⟨A5, c5, rfl⟩ := own_form htx.2.1
      obtain ⟨⟨y0, y1⟩, ⟨yf0, yf1⟩, ylt⟩ := wtr_cells htx.1
      obtain ⟨g, o, cc, hA, hGg, hltg, x0, x1, x2, x3, x4⟩ := (HS.out.upd hu HFG.out).at j hjl
      simp only [Value.slice.injEq] at hA
      obtain ⟨rfl, -, -⟩ := hA
      have hmem := List.getElem_mem hjl
      have hkk := (HKS.out _ hmem).upd hu HFG.out
      obtain ⟨es3, hes3, hseen3, _⟩ := hkk.inv
      obtain ⟨A4, c4, hkv⟩ := hseen3.form
      have q0 : (0 : Int) ≤ j := by omega
      have q1 : (j : Int) < es.length := by omega
      have q2 : IntKind.i64.wrap ((j : Int) + 1) = (j : Int) + 1 := IntWalk.i64_in _ (by omega)
      obtain ⟨⟨r0, r1, r2, r3, r4⟩, rf⟩ := blk5 hbxr
      have hblt : w.heap.size < wr.heap.size := (Array.getElem?_eq_some_iff.1 hbxr).1
      have hbr : base ≤ wr.heap.size := by omega
      have hSz : (s ++ (⟨#[40]⟩ ++ preT ((es.map El.d).map txtD) es.length false j)).size ≤ 2000001 := by simp only [ByteArray.size_append]; exact hsz
      have hxe : ∀ q, (Value.slice A5 (s ++ (⟨#[40]⟩ ++ preT ((es.map El.d).map txtD) es.length false j)).size c5).ownBlock = some q → q < wr.heap.size := fun q hq => (own_lt htx.2.1 q hq).2
      have HXE := Lib.hid hxe
      have HS0 : Hid (j = 0 → (s ++ (⟨#[40]⟩ ++ preT ((es.map El.d).map txtD) es.length false j)).size = s.size + 1) := Lib.hid (fun h => by subst h; simp only [ByteArray.size_append]; rfl)
      have HSP : Hid (0 < j → (s ++ (⟨#[40]⟩ ++ preT ((es.map El.d).map txtD) es.length false j)).size ≤ 65536) := Lib.hid (fun h => by simp only [ByteArray.size_append]; exact HSZP.out h)
      have HHJ := Lib.hid (HHG.out _ hmem)
      have HKK := Lib.hid hkk
      have HTX := Lib.hid htx
      have HUU := Lib.hid hu
      have HVV := Lib.hid hv
      have HBR := Lib.hid hbxr
      have IHJ := Lib.hid (HIH.out _ hmem)
      have HWJ := Lib.hid (HW.out _ (List.mem_map.2 ⟨_, hmem, rfl⟩))
      have HMJ := Lib.hid (HM.out _ (List.mem_map.2 ⟨_, hmem, rfl⟩))
      have HGT := Lib.hid (getD_txt es j hjl)
      have hov : (txtD (.mk 5 n t (es.map El.d) false)).size = 1 + (preT ((es.map El.d).map txtD) es.length false es.length).size + 1 := by rw [HT.out, ByteArray.size_append, ByteArray.size_append]; rfl
      have HOV := Lib.hid hov
      have HPL := Lib.hid (preT_le ((es.map El.d).map txtD) es.length false (j + 1) es.length hjl)
      generalize hV : es[j] = X at *
      obtain ⟨xd, xkv, xbs⟩ := X
      simp only at *
      subst hkv
      generalize hSJ : s ++ (⟨#[40]⟩ ++ preT ((es.map El.d).map txtD) es.length false j) = S at *
      have HSJ := Lib.hid hSJ
      clear hkk htx hu hv hmem hes3 hseen3 hov hxe hV hbxr hSJ hsz
      have hnb : New wr (wr.alloc (.cells #[.int .u8 xd.k, .int .i64 xd.n, .string xd.t, .slice A4 es3.length c4, .bool xd.dot] 58)) := (Upd.refl (fun _ => False) wr).alloc _
      have HKB5 := Lib.hid (heap_alloc_new wr (.cells #[.int .u8 xd.k, .int .i64 xd.n, .string xd.t, .slice A4 es3.length c4, .bool xd.dot] 58))
      have HNB := Lib.hid hnb
      have HX5 := Lib.hid (HTX.out.new hnb)
      have HBR5 := Lib.hid (hnb.heap HBR.out (fun x => x))
      have HK5 := Lib.hid (HKK.out.new hnb)
      have HW5 := Lib.hid (show Wrote (w.alloc (.cells #[.int .u8 5, .int .i64 n, .string t, .slice (some ⟨g, o, none⟩) es.length c, .bool false] 58)) base wb m S (.slice A2 s.size c2) (wr.alloc (.cells #[.int .u8 xd.k, .int .i64 xd.n, .string xd.t, .slice A4 es3.length c4, .bool xd.dot] 58)) from ⟨_, HX5.out, HUU.out.trans (hnb.mono fun _ _ x => x.elim), HVV.out⟩)
      clear hnb
      by_cases hj0 : j = 0
      · have HJ0 := Lib.hid hj0
        have hjd : decide ((0 : Int) < (j : Int)) = false := decide_eq_false (by omega)
        have hjm : ¬ ((0 : Int) < (j : Int)) := by omega
        clear hj0
        go_upto_region 10 with (fail)
        clear hjd hjm
        have hS5 : S.size + 4 * xd.hgt ≤ 2000000 := by have h1 := HS0.out HJ0.out; have h2 := HHJ.out.1; omega
        generalize wr.alloc (.cells #[.int .u8 xd.k, .int .i64 xd.n, .string xd.t, .slice A4 es3.length c4, .bool xd.dot] 58) = W6 at *
        obtain ⟨⟨p0, p1, p2, p3, p4⟩, pf⟩ := blk5 HBR5.out
        obtain ⟨v6, ht6, hu6, hv6⟩ := HW5.out
        have hcall := IHJ.out (.slice A4 es3.length c4) G base wb m S v6 W6 HK5.out (fun q hq => Nat.lt_of_lt_of_le (HGB.out q hq) (by have h1 := hu6.size; have h2 := HZ1.out; omega)) hG (fun q hq hg => by
          rcases hv6 with e | e
          · rw [e] at hq; exact HGv.out q hq hg
          · have h1 := e q hq; have h2 := HGB.out q hg; have h3 := HZ1.out; omega) ht6 (by have h1 := hu6.size; have h2 := HZ1.out; omega) hS5 HHJ.out.2 HWJ.out HMJ.out
        have HPE := Lib.hid (show s ++ (⟨#[40]⟩ ++ preT ((es.map El.d).map txtD) es.length false (j + 1)) = S ++ txtD xd from (by have h := piece_a s ⟨#[40]⟩ ((es.map El.d).map txtD) es.length false j _ HGT.out HJ0.out (fun h => by have := h.1; cases this); rw [HSJ.out] at h; exact h))
        obtain ⟨⟨k0, k1, k2, k3, k4⟩, kf⟩ := blk5 HKB5.out
        have HC := Lib.hid hcall
        have HU6 := Lib.hid hu6
        have HV6 := Lib.hid hv6
        have HB6 := HBR5
        clear hcall hu6 hv6 ht6 y0 y1 yf0 yf1 x0 x1 x2 x3 x4 r0 r1 r2 r3
        unfold datV at HC
        go_wp2_with fail
        refine HC.out.mono ?_
        rintro e w7 h
        have HH := Lib.hid h
        rcases h with ⟨q1', rfl, q2'⟩ | ⟨q1', rfl, q2'⟩
        · clear q1' q2'
          go_wp2_with fail
          go_roundw
          case measure => simp [intOf]; omega
          case rel =>
            rcases HH.out with ⟨q1, _, q2⟩ | ⟨_, q3, _⟩
            · have hfin := wrote_trans HU6.out HV6.out q2
              rw [← HPE.out] at hfin
              have hsz7 := congrArg ByteArray.size HPE.out
              simp only [ByteArray.size_append] at hsz7 q1
              have h40 : (⟨#[40]⟩ : ByteArray).size = 1 := rfl
              have h32 : (⟨#[32]⟩ : ByteArray).size = 1 := rfl
              have h46 : (⟨#[46, 32]⟩ : ByteArray).size = 2 := rfl
              obtain ⟨v8, _, hu8, _⟩ := q2
              refine ⟨j + 1, by omega, by simp, hfin, hu8.heap HB6.out ?_, by omega, by omega⟩
              rintro (e | e)
              · omega
              · rcases HV6.out with e2 | e2
                · rw [e2] at e; have := HVL.out _ e; omega
                · have h1 := e2 _ e; have h2 := HZ1.out; omega
            · cases q3
        · clear q1' q2'
          go_wp2_with fail
          go_ret
          rcases HH.out with ⟨_, q3, _⟩ | ⟨q1, _, q2⟩
          · cases q3
          · refine over_end HU6.out HV6.out q2 q1 ?_
            have hsz7 := congrArg ByteArray.size HPE.out
            simp only [ByteArray.size_append] at hsz7 ⊢
            have h40 : (⟨#[40]⟩ : ByteArray).size = 1 := rfl
            have h32 : (⟨#[32]⟩ : ByteArray).size = 1 := rfl
            have h46 : (⟨#[46, 32]⟩ : ByteArray).size = 2 := rfl
            have := HPL.out
            have := HOV.out
            omega
      · have hjp : 0 < j := by omega
        have hjq : (0 : Int) < (j : Int) := by omega
        have hjd : decide ((0 : Int) < (j : Int)) = true := decide_eq_true hjq
        have M5 := Lib.hid (show S.size + 1 ≤ maxLen by unfold maxLen; omega)
        have M6 := Lib.hid (show (S.size + 1) * 1 ≤ 140737488355328 by omega)
        clear hj0
        go_upto_region 10 with (at_builtin; refine wpList_append_row ((wr.alloc (.cells #[.int .u8 xd.k, .int .i64 xd.n, .string xd.t, .slice A4 es3.length c4, .bool xd.dot] 58)).alloc (.cells #[.int .u8 32] 5)) (by rfl) (.tmp 70) (.tmp 71) 133 (by rfl) base 5 i0 _ 1 1 Try.underlying133 hi0 hz0 hz1 hz2 rfl (by decide) (.slice A5 S.size c5) S.size (Lib.strCells S) (by rfl) (HX5.out.2.1.alloc (.cells #[.int .u8 32] 5)) (.slice (some ⟨wr.heap.size + 1, 0, none⟩) 1 1) 1 [.int .u8 32] (by rfl) (.inr ⟨wr.heap.size + 1, 1, rfl, rfl, World.news_of_block (alloc2 wr (.cells #[.int .u8 xd.k, .int .i64 xd.n, .string xd.t, .slice A4 es3.length c4, .bool xd.dot] 58) (.cells #[.int .u8 32] 5))⟩) (byte_one 32) M5.out M6.out (by simp; omega) ?_; intro v1 w4 ho4 hg4 hat4; obtain ⟨A3, c3, rfl⟩ := own_form ho4; have hwr := wrote_byte (c := 32) (.cells #[.int .u8 32] 5) HX5.out ho4 hg4 hat4; obtain ⟨⟨z0, z1⟩, ⟨zf0, zf1⟩, zlt⟩ := wtr_cells (wtr_grown (HX5.out.new ((Upd.refl (fun _ => False) (wr.alloc (.cells #[.int .u8 xd.k, .int .i64 xd.n, .string xd.t, .slice A4 es3.length c4, .bool xd.dot] 58))).alloc (.cells #[.int .u8 32] 5))) hg4); have hz9 := (wtr_cells (wtr_put (bv' := .slice A3 (S.size + 1) c3) (wtr_grown (HX5.out.new ((Upd.refl (fun _ => False) (wr.alloc (.cells #[.int .u8 xd.k, .int .i64 xd.n, .string xd.t, .slice A4 es3.length c4, .bool xd.dot] 58))).alloc (.cells #[.int .u8 32] 5))) hg4))).1.1; have HWR6 := Lib.hid hwr; clear ho4 hg4 hat4 hwr)
        have HS6 : Hid ((S ++ ⟨#[32]⟩).size = S.size + 1) := Lib.hid (by rw [ByteArray.size_append]; rfl)
        generalize w4.setCell ⟨wb, 0, none⟩ (.slice A3 (S.size + 1) c3) = W6 at *
        clear z0 z1 zf0 zf1 zlt hz9
        have HW6 := Lib.hid (wrote_trans (HUU.out.trans (HNB.out.mono fun _ _ x => x.elim)) HVV.out HWR6.out)
        obtain ⟨v9, _, hu9, _⟩ := HWR6.out
        have hnk : ¬ (wr.heap.size = wb ∨ (Value.slice A5 S.size c5).ownBlock = some wr.heap.size) := by
          rintro (e | e)
          · omega
          · have := HXE.out _ e; omega
        have hnh : ¬ (w.heap.size = wb ∨ (Value.slice A5 S.size c5).ownBlock = some w.heap.size) := by
          rintro (e | e)
          · omega
          · rcases HVV.out with e2 | e2
            · rw [e2] at e; have := HVL.out _ e; omega
            · have h1 := e2 _ e; have h2 := HZ1.out; omega
        have hng : ∀ q, G q → ¬ (q = wb ∨ (Value.slice A5 S.size c5).ownBlock = some q) := by
          rintro q hq (e | e)
          · exact hG (e ▸ hq)
          · rcases HVV.out with e2 | e2
            · rw [e2] at e; exact HGv.out q e hq
            · have h1 := e2 q e; have h2 := HGB.out q hq; have h3 := HZ1.out; omega
        have HKB6 := Lib.hid (hu9.heap HKB5.out hnk)
        have HBR6 := Lib.hid (hu9.heap HBR5.out hnh)
        have HK6 := Lib.hid (HK5.out.upd hu9 hng)
        clear hu9 hnk hnh hng
        have hS6 : (S ++ ⟨#[32]⟩).size + 4 * xd.hgt ≤ 2000000 := by rw [HS6.out]; have h1 := HSP.out hjp; have h2 := HHJ.out.2; omega
        obtain ⟨⟨p0, p1, p2, p3, p4⟩, pf⟩ := blk5 HBR6.out
        obtain ⟨v6, ht6, hu6, hv6⟩ := HW6.out
        have hcall := IHJ.out (.slice A4 es3.length c4) G base wb m (S ++ ⟨#[32]⟩) v6 W6 HK6.out (fun q hq => Nat.lt_of_lt_of_le (HGB.out q hq) (by have h1 := hu6.size; have h2 := HZ1.out; omega)) hG (fun q hq hg => by
          rcases hv6 with e | e
          · rw [e] at hq; exact HGv.out q hq hg
          · have h1 := e q hq; have h2 := HGB.out q hg; have h3 := HZ1.out; omega) ht6 (by have h1 := hu6.size; have h2 := HZ1.out; omega) hS6 HHJ.out.2 HWJ.out HMJ.out
        have HPE := Lib.hid (show s ++ (⟨#[40]⟩ ++ preT ((es.map El.d).map txtD) es.length false (j + 1)) = (S ++ ⟨#[32]⟩) ++ txtD xd from (by have h := piece_b s ⟨#[40]⟩ ((es.map El.d).map txtD) es.length false j _ HGT.out hjp (fun h => by have := h.1; cases this); rw [HSJ.out] at h; exact h))
        obtain ⟨⟨k0, k1, k2, k3, k4⟩, kf⟩ := blk5 HKB6.out
        have HC := Lib.hid hcall
        have HU6 := Lib.hid hu6
        have HV6 := Lib.hid hv6
        have HB6 := HBR6
        clear hcall hu6 hv6 ht6 y0 y1 yf0 yf1 x0 x1 x2 x3 x4 r0 r1 r2 r3
        unfold datV at HC
        go_wp2_with fail
        refine HC.out.mono ?_
        rintro e w7 h
        have HH := Lib.hid h
        rcases h with ⟨q1', rfl, q2'⟩ | ⟨q1', rfl, q2'⟩
        · clear q1' q2'
          go_wp2_with fail
          go_roundw
          case measure => simp [intOf]; omega
          case rel =>
            rcases HH.out with ⟨q1, _, q2⟩ | ⟨_, q3, _⟩
            · have hfin := wrote_trans HU6.out HV6.out q2
              rw [← HPE.out] at hfin
              have hsz7 := congrArg ByteArray.size HPE.out
              simp only [ByteArray.size_append] at hsz7 q1
              have h40 : (⟨#[40]⟩ : ByteArray).size = 1 := rfl
              have h32 : (⟨#[32]⟩ : ByteArray).size = 1 := rfl
              have h46 : (⟨#[46, 32]⟩ : ByteArray).size = 2 := rfl
              obtain ⟨v8, _, hu8, _⟩ := q2
              refine ⟨j + 1, by omega, by simp, hfin, hu8.heap HB6.out ?_, by omega, by omega⟩
              rintro (e | e)
              · omega
              · rcases HV6.out with e2 | e2
                · rw [e2] at e; have := HVL.out _ e; omega
                · have h1 := e2 _ e; have h2 := HZ1.out; omega
            · cases q3
        · clear q1' q2'
          go_wp2_with fail
          go_ret
          rcases HH.out with ⟨_, q3, _⟩ | ⟨q1, _, q2⟩
          · cases q3
          · refine over_end HU6.out HV6.out q2 q1 ?_
            have hsz7 := congrArg ByteArray.size HPE.out
            simp only [ByteArray.size_append] at hsz7 ⊢
            have h40 : (⟨#[40]⟩ : ByteArray).size = 1 := rfl
            have h32 : (⟨#[32]⟩ : ByteArray).size = 1 := rfl
            have h46 : (⟨#[46, 32]⟩ : ByteArray).size = 2 := rfl
            have := HPL.out
            have := HOV.out
            omega
    · have hje : j = es.length := by omega
      have q1 : ¬ (j : Int) < es.length := by omega
      obtain ⟨v', htx, hu, hv⟩ := hsf
      obtain ⟨A5, c5, rfl⟩ := own_form htx.2.1
      obtain ⟨⟨y0, y1⟩, ⟨yf0, yf1⟩, ylt⟩ := wtr_cells htx.1
      have hTX := Lib.hid htx
      have HUU := Lib.hid hu
      have HVV := Lib.hid hv
      have hS : (s ++ (⟨#[40]⟩ ++ preT ((es.map El.d).map txtD) es.length false j)).size ≤ 2000001 := by
        simp only [ByteArray.size_append]; exact hsz
      have hTT : s ++ txtD (.mk 5 n t (es.map El.d) false) = (s ++ (⟨#[40]⟩ ++ preT ((es.map El.d).map txtD) es.length false j)) ++ ⟨#[41]⟩ := by
        rw [HT.out, hje]; simp only [ByteArray.append_assoc]
      have HTT := Lib.hid hTT
      generalize s ++ (⟨#[40]⟩ ++ preT ((es.map El.d).map txtD) es.length false j) = S at *
      have M5 := Lib.hid (show S.size + 1 ≤ maxLen by unfold maxLen; omega)
      have M6 := Lib.hid (show (S.size + 1) * 1 ≤ 140737488355328 by omega)
      have hbr : base ≤ wr.heap.size := by have h1 := hu.size; have h2 := HZ1.out; omega
      clear htx hu hv hS hTT
      go_wp2_with (at_builtin; refine wpList_append_row (wr.alloc (.cells #[.int .u8 41] 5)) (by rfl) (.tmp 102) (.tmp 103) 133 (by rfl) base 5 i0 _ 1 1 Try.underlying133 hi0 hz0 hz1 hz2 rfl (by decide) (.slice A5 S.size c5) S.size (Lib.strCells S) (by rfl) (hTX.out.2.1.alloc (.cells #[.int .u8 41] 5)) (.slice (some ⟨wr.heap.size, 0, none⟩) 1 1) 1 [.int .u8 41] (by rfl) (.inr ⟨wr.heap.size, 1, rfl, rfl, World.news_of_block (heap_alloc_new wr (.cells #[.int .u8 41] 5))⟩) (byte_one 41) M5.out M6.out (by simp; omega) ?_; intro v1 w4 ho4 hg4 hat4; obtain ⟨A3, c3, rfl⟩ := own_form ho4; have hwr := wrote_byte (c := 41) (.cells #[.int .u8 41] 5) hTX.out ho4 hg4 hat4; obtain ⟨⟨z0, z1⟩, ⟨zf0, zf1⟩, zlt⟩ := wtr_cells (wtr_grown (hTX.out.new ((Upd.refl (fun _ => False) wr).alloc (.cells #[.int .u8 41] 5))) hg4); have hz9 := (wtr_cells (wtr_put (bv' := .slice A3 (S.size + 1) c3) (wtr_grown (hTX.out.new ((Upd.refl (fun _ => False) wr).alloc (.cells #[.int .u8 41] 5))) hg4))).1.1; have HWR := Lib.hid hwr; clear ho4 hg4 hat4 hwr)
      go_ret
      have hfin := wrote_trans HUU.out HVV.out HWR.out
      have hsS : s.size + (txtD (.mk 5 n t (es.map El.d) false)).size = S.size + 1 := by
        have := congrArg ByteArray.size HTT.out
        simp only [ByteArray.size_append] at this
        exact this
      by_cases hc : S.size + 1 ≤ 65536
      · exact .inl ⟨by omega, (by rw [decide_eq_true (by omega)]; rfl), by rw [HTT.out]; exact hfin⟩
      · obtain ⟨v9, _, h2, _⟩ := hfin
        exact .inr ⟨by omega, (by rw [decide_eq_false (by omega)]; rfl), h2.mono fun b _ e => e.imp id .inl⟩
end Go.Proofs.Ytnnjhafjcdjobaa

namespace Go.Proofs.Ytnnjhafjcdjobaa
open Go.RowKit
set_option linter.unusedVariables false
set_option linter.unusedSimpArgs false

set_option maxHeartbeats 8000000 in
set_option maxRecDepth 20000 in
theorem list_loop_b (n : Int) (t : ByteArray) (es : List El) (A : Option Addr) (c : Nat) (ih : ∀ e ∈ es, WRITES 80 e.d) (G : Nat → Prop) (base wb : Nat) (m : Int) (s : ByteArray) (v : Value) (w : World) (hs : Seen w G (.slice A es.length c) es) (hks : ∀ e ∈ es, Sees w G e.kv e.d.kids) (hn : es.length ≤ 2000000)
    (hGb : ∀ b, G b → b < w.heap.size) (hG : ¬ G wb) (hGv : ∀ b, v.ownBlock = some b → ¬ G b) (hx : Txt w base wb m s v) (hb : base ≤ w.heap.size) (hss : s.size ≤ 2000000) (hhg : ∀ e ∈ es, s.size + 4 + 4 * e.d.hgt ≤ 2000000 ∧ e.d.hgt ≤ 70000) (hwee : weeL (es.map El.d)) (hmay : mayL (es.map El.d) = true) (hq : es.length ≠ 2) (hdl : 2 ≤ es.length)
    (hT : txtD (.mk 5 n t (es.map El.d) true) = ⟨#[40]⟩ ++ preT ((es.map El.d).map txtD) es.length true es.length ++ ⟨#[41]⟩) :
    Calls Try.prog 110 #[.pointer (some ⟨wb, 0, none⟩), .agg #[.int .u8 5, .int .i64 n, .string t, .slice A es.length c, .bool true]] w (PutPost (.mk 5 n t (es.map El.d) true) w base wb m s v) := by
  obtain ⟨i0, hi0, hz0, hz1, hz2⟩ := info_parts info5
  obtain ⟨⟨c0, c1⟩, ⟨cf0, cf1⟩, hlt⟩ := wtr_cells hx.1
  obtain ⟨A2, c2, rfl⟩ := own_form hx.2.1
  have m3 : s.size + 1 ≤ maxLen := by unfold maxLen; omega
  have m4 : (s.size + 1) * 1 ≤ 140737488355328 := by omega
  have hn1 : New w (w.alloc (.cells #[.int .u8 5, .int .i64 n, .string t, .slice A es.length c, .bool true] 58)) := (Upd.refl (fun _ => False) w).alloc _
  suffices hsuf : Calls Try.prog 110 #[.pointer (some ⟨wb, 0, none⟩), .agg #[.int .u8 5, .int .i64 n, .string t, .slice A es.length c, .bool true]] w (PutPost (.mk 5 n t (es.map El.d) true) (w.alloc (.cells #[.int .u8 5, .int .i64 n, .string t, .slice A es.length c, .bool true] 58)) base wb m s (.slice A2 s.size c2)) from hsuf.mono fun e w' h => putpost_pre hn1 h
  have HX := Lib.hid (hx.new hn1)
  have M3 := Lib.hid m3
  have M4 := Lib.hid m4
  have hq1 : ((es.length : Int) == 2) = false := by simp; omega
  clear hq
  have HGv := Lib.hid hGv
  have hvl : ∀ q, (Value.slice A2 s.size c2).ownBlock = some q → q < w.heap.size := fun q hq => (own_lt hx.2.1 q hq).2
  have HVL := Lib.hid hvl
  have HS := Lib.hid (hs.new hn1)
  have HKS := Lib.hid (fun e he => (hks e he).new hn1)
  have HN1 := Lib.hid hn1
  have hbx := heap_alloc_new w (.cells #[.int .u8 5, .int .i64 n, .string t, .slice A es.length c, .bool true] 58)
  have HBX := Lib.hid hbx
  have HT := Lib.hid hT
  have HW := Lib.hid (weeL_mem hwee)
  have HM := Lib.hid (mayL_mem hmay)
  have HIH := Lib.hid ih
  have HHG := Lib.hid hhg
  have HGB := Lib.hid hGb
  have HZ1 : Hid ((w.alloc (.cells #[.int .u8 5, .int .i64 n, .string t, .slice A es.length c, .bool true] 58)).heap.size = w.heap.size + 1) := Lib.hid (by simp)
  clear hGv hvl hs hks hn1 hx hbx m3 m4 hT hwee hmay ih hGb hhg
  go_enter Try.func110, Try.ntmps110
  go_upto_region 5 with (at_builtin; refine wpList_append_row ((w.alloc (.cells #[.int .u8 5, .int .i64 n, .string t, .slice A es.length c, .bool true] 58)).alloc (.cells #[.int .u8 40] 5)) (by rfl) (.tmp 51) (.tmp 52) 133 (by rfl) base 5 i0 _ 1 1 Try.underlying133 hi0 hz0 hz1 hz2 rfl (by decide) (.slice A2 s.size c2) s.size (Lib.strCells s) (by rfl) (HX.out.2.1.alloc (.cells #[.int .u8 40] 5)) (.slice (some ⟨w.heap.size + 1, 0, none⟩) 1 1) 1 [.int .u8 40] (by rfl) (.inr ⟨w.heap.size + 1, 1, rfl, rfl, World.news_of_block (alloc2 w (.cells #[.int .u8 5, .int .i64 n, .string t, .slice A es.length c, .bool true] 58) (.cells #[.int .u8 40] 5))⟩) (byte_one 40) M3.out M4.out (by simp; omega) ?_; intro v1 w4 ho4 hg4 hat4; obtain ⟨A3, c3, rfl⟩ := own_form ho4; have hwr := wrote_byte (c := 40) (.cells #[.int .u8 40] 5) HX.out ho4 hg4 hat4; obtain ⟨⟨z0, z1⟩, ⟨zf0, zf1⟩, zlt⟩ := wtr_cells (wtr_grown (HX.out.new ((Upd.refl (fun _ => False) (w.alloc (.cells #[.int .u8 5, .int .i64 n, .string t, .slice A es.length c, .bool true] 58))).alloc (.cells #[.int .u8 40] 5))) hg4); have hz9 := (wtr_cells (wtr_put (bv' := .slice A3 (s.size + 1) c3) (wtr_grown (HX.out.new ((Upd.refl (fun _ => False) (w.alloc (.cells #[.int .u8 5, .int .i64 n, .string t, .slice A es.length c, .bool true] 58))).alloc (.cells #[.int .u8 40] 5))) hg4))).1.1; have HWR := Lib.hid hwr; clear ho4 hg4 hat4 hwr)
  generalize w4.setCell ⟨wb, 0, none⟩ (.slice A3 (s.size + 1) c3) = W5 at *
  have hfG : ∀ q, G q → ¬ (q = wb ∨ (Value.slice A2 s.size c2).ownBlock = some q) := fun q hq e => by
    rcases e with e | e
    · exact hG (e ▸ hq)
    · exact HGv.out q e hq
  have hHne : ¬ (w.heap.size = wb ∨ (Value.slice A2 s.size c2).ownBlock = some w.heap.size) := fun e => by
    rcases e with e | e
    · omega
    · have := HVL.out _ e; omega
  have hbx5 : W5.heap[w.heap.size]? = some (.cells #[.int .u8 5, .int .i64 n, .string t, .slice A es.length c, .bool true] 58 (0, 0)) := by
    obtain ⟨v', _, hu5, _⟩ := HWR.out
    exact hu5.heap HBX.out hHne
  obtain ⟨⟨e0, e1, e2, e3, e4⟩, ef⟩ := blk5 hbx5
  have HBX5 := Lib.hid hbx5
  have HFG := Lib.hid hfG
  clear hbx5 z0 z1 zf0 zf1 zlt hz9 c0 c1 cf0 cf1 hfG hHne
  go_wp2_with fail
  have hszI : (es.length : Int) ≤ 2000000 := by omega
  go_loopw [59] (fun i wr => ∃ j : Nat, j ≤ es.length ∧ i = .int .i64 j ∧ Sofar (w.alloc (.cells #[.int .u8 5, .int .i64 n, .string t, .slice A es.length c, .bool true] 58)) base wb m (s ++ (⟨#[40]⟩ ++ preT ((es.map El.d).map txtD) es.length true j)) (.slice A2 s.size c2) wr ∧ wr.heap[w.heap.size]? = some (.cells #[.int .u8 5, .int .i64 n, .string t, .slice A es.length c, .bool true] 58 (0, 0)) ∧ s.size + (1 + (preT ((es.map El.d).map txtD) es.length true j).size) ≤ 2000001 ∧ (0 < j → s.size + (1 + (preT ((es.map El.d).map txtD) es.length true j).size) ≤ 65536)) (fun i _ => es.length - (intOf i).toNat)
  case atStart =>
    have e1 : (⟨#[40]⟩ : ByteArray) ++ preT ((es.map El.d).map txtD) es.length true 0 = ⟨#[40]⟩ := rfl
    have e2 : (preT ((es.map El.d).map txtD) es.length true 0).size = 0 := rfl
    exact ⟨0, Nat.zero_le _, rfl, (by rw [e1]; exact HWR.out), HBX5.out, (by omega), (by omega)⟩
  case round =>
    obtain ⟨j, hj, rfl, hsf, hbxr, hsz, hszp⟩ := hrel
    have HSZP := Lib.hid hszp
    clear hszp
    by_cases hjl : j < es.length
    · obtain ⟨v', htx, hu, hv⟩ := hsf
      obtain ⟨A5, c5, rfl⟩ := own_form htx.2.1
      obtain ⟨⟨y0, y1⟩, ⟨yf0, yf1⟩, ylt⟩ := wtr_cells htx.1
      obtain ⟨g, o, cc, hA, hGg, hltg, x0, x1, x2, x3, x4⟩ := (HS.out.upd hu HFG.out).at j hjl
      simp only [Value.slice.injEq] at hA
      obtain ⟨rfl, -, -⟩ := hA
      have hmem := List.getElem_mem hjl
      have hkk := (HKS.out _ hmem).upd hu HFG.out
      obtain ⟨es3, hes3, hseen3, _⟩ := hkk.inv
      obtain ⟨A4, c4, hkv⟩ := hseen3.form
      have q0 : (0 : Int) ≤ j := by omega
      have q1 : (j : Int) < es.length := by omega
      have q2 : IntKind.i64.wrap ((j : Int) + 1) = (j : Int) + 1 := IntWalk.i64_in _ (by omega)
      obtain ⟨⟨r0, r1, r2, r3, r4⟩, rf⟩ := blk5 hbxr
      have hblt : w.heap.size < wr.heap.size := (Array.getElem?_eq_some_iff.1 hbxr).1
      have hbr : base ≤ wr.heap.size := by omega
      have hSz : (s ++ (⟨#[40]⟩ ++ preT ((es.map El.d).map txtD) es.length true j)).size ≤ 2000001 := by simp only [ByteArray.size_append]; exact hsz
      have hxe : ∀ q, (Value.slice A5 (s ++ (⟨#[40]⟩ ++ preT ((es.map El.d).map txtD) es.length true j)).size c5).ownBlock = some q → q < wr.heap.size := fun q hq => (own_lt htx.2.1 q hq).2
      have HXE := Lib.hid hxe
      have HS0 : Hid (j = 0 → (s ++ (⟨#[40]⟩ ++ preT ((es.map El.d).map txtD) es.length true j)).size = s.size + 1) := Lib.hid (fun h => by subst h; simp only [ByteArray.size_append]; rfl)
      have HSP : Hid (0 < j → (s ++ (⟨#[40]⟩ ++ preT ((es.map El.d).map txtD) es.length true j)).size ≤ 65536) := Lib.hid (fun h => by simp only [ByteArray.size_append]; exact HSZP.out h)
      have HHJ := Lib.hid (HHG.out _ hmem)
      have HKK := Lib.hid hkk
      have HTX := Lib.hid htx
      have HUU := Lib.hid hu
      have HVV := Lib.hid hv
      have HBR := Lib.hid hbxr
      have IHJ := Lib.hid (HIH.out _ hmem)
      have HWJ := Lib.hid (HW.out _ (List.mem_map.2 ⟨_, hmem, rfl⟩))
      have HMJ := Lib.hid (HM.out _ (List.mem_map.2 ⟨_, hmem, rfl⟩))
      have HGT := Lib.hid (getD_txt es j hjl)
      have hov : (txtD (.mk 5 n t (es.map El.d) true)).size = 1 + (preT ((es.map El.d).map txtD) es.length true es.length).size + 1 := by rw [HT.out, ByteArray.size_append, ByteArray.size_append]; rfl
      have HOV := Lib.hid hov
      have HPL := Lib.hid (preT_le ((es.map El.d).map txtD) es.length true (j + 1) es.length hjl)
      generalize hV : es[j] = X at *
      obtain ⟨xd, xkv, xbs⟩ := X
      simp only at *
      subst hkv
      generalize hSJ : s ++ (⟨#[40]⟩ ++ preT ((es.map El.d).map txtD) es.length true j) = S at *
      have HSJ := Lib.hid hSJ
      clear hkk htx hu hv hmem hes3 hseen3 hov hxe hV hbxr hSJ hsz
      have hnb : New wr (wr.alloc (.cells #[.int .u8 xd.k, .int .i64 xd.n, .string xd.t, .slice A4 es3.length c4, .bool xd.dot] 58)) := (Upd.refl (fun _ => False) wr).alloc _
      have HKB5 := Lib.hid (heap_alloc_new wr (.cells #[.int .u8 xd.k, .int .i64 xd.n, .string xd.t, .slice A4 es3.length c4, .bool xd.dot] 58))
      have HNB := Lib.hid hnb
      have HX5 := Lib.hid (HTX.out.new hnb)
      have HBR5 := Lib.hid (hnb.heap HBR.out (fun x => x))
      have HK5 := Lib.hid (HKK.out.new hnb)
      have HW5 := Lib.hid (show Wrote (w.alloc (.cells #[.int .u8 5, .int .i64 n, .string t, .slice (some ⟨g, o, none⟩) es.length c, .bool true] 58)) base wb m S (.slice A2 s.size c2) (wr.alloc (.cells #[.int .u8 xd.k, .int .i64 xd.n, .string xd.t, .slice A4 es3.length c4, .bool xd.dot] 58)) from ⟨_, HX5.out, HUU.out.trans (hnb.mono fun _ _ x => x.elim), HVV.out⟩)
      clear hnb
      by_cases hj0 : j = 0
      · have HJ0 := Lib.hid hj0
        have hjd : decide ((0 : Int) < (j : Int)) = false := decide_eq_false (by omega)
        have hjm : ¬ ((0 : Int) < (j : Int)) := by omega
        clear hj0
        go_upto_region 10 with (fail)
        clear hjd hjm
        have hS5 : S.size + 4 * xd.hgt ≤ 2000000 := by have h1 := HS0.out HJ0.out; have h2 := HHJ.out.1; omega
        have hnl : ¬ (true = true ∧ j + 1 = es.length) := fun h => by have h1 := h.2; have h2 := HJ0.out; omega
        have g1 : IntKind.i64.wrap ((es.length : Int) - 1) = (es.length : Int) - 1 := IntWalk.i64_in _ (by omega)
        have g2 : ((j : Int) == (es.length : Int) - 1) = false := by have h2 := HJ0.out; simp; omega
        generalize wr.alloc (.cells #[.int .u8 xd.k, .int .i64 xd.n, .string xd.t, .slice A4 es3.length c4, .bool xd.dot] 58) = W6 at *
        obtain ⟨⟨p0, p1, p2, p3, p4⟩, pf⟩ := blk5 HBR5.out
        obtain ⟨v6, ht6, hu6, hv6⟩ := HW5.out
        have hcall := IHJ.out (.slice A4 es3.length c4) G base wb m S v6 W6 HK5.out (fun q hq => Nat.lt_of_lt_of_le (HGB.out q hq) (by have h1 := hu6.size; have h2 := HZ1.out; omega)) hG (fun q hq hg => by
          rcases hv6 with e | e
          · rw [e] at hq; exact HGv.out q hq hg
          · have h1 := e q hq; have h2 := HGB.out q hg; have h3 := HZ1.out; omega) ht6 (by have h1 := hu6.size; have h2 := HZ1.out; omega) hS5 HHJ.out.2 HWJ.out HMJ.out
        have HPE := Lib.hid (show s ++ (⟨#[40]⟩ ++ preT ((es.map El.d).map txtD) es.length true (j + 1)) = S ++ txtD xd from (by have h := piece_a s ⟨#[40]⟩ ((es.map El.d).map txtD) es.length true j _ HGT.out HJ0.out hnl; rw [HSJ.out] at h; exact h))
        obtain ⟨⟨k0, k1, k2, k3, k4⟩, kf⟩ := blk5 HKB5.out
        have HC := Lib.hid hcall
        have HU6 := Lib.hid hu6
        have HV6 := Lib.hid hv6
        have HB6 := HBR5
        clear hcall hu6 hv6 ht6 y0 y1 yf0 yf1 x0 x1 x2 x3 x4 r0 r1 r2 r3
        unfold datV at HC
        go_wp2_with fail
        refine HC.out.mono ?_
        rintro e w7 h
        have HH := Lib.hid h
        rcases h with ⟨q1', rfl, q2'⟩ | ⟨q1', rfl, q2'⟩
        · clear q1' q2'
          go_wp2_with fail
          go_roundw
          case measure => simp [intOf]; omega
          case rel =>
            rcases HH.out with ⟨q1, _, q2⟩ | ⟨_, q3, _⟩
            · have hfin := wrote_trans HU6.out HV6.out q2
              rw [← HPE.out] at hfin
              have hsz7 := congrArg ByteArray.size HPE.out
              simp only [ByteArray.size_append] at hsz7 q1
              have h40 : (⟨#[40]⟩ : ByteArray).size = 1 := rfl
              have h32 : (⟨#[32]⟩ : ByteArray).size = 1 := rfl
              have h46 : (⟨#[46, 32]⟩ : ByteArray).size = 2 := rfl
              obtain ⟨v8, _, hu8, _⟩ := q2
              refine ⟨j + 1, by omega, by simp, hfin, hu8.heap HB6.out ?_, by omega, by omega⟩
              rintro (e | e)
              · omega
              · rcases HV6.out with e2 | e2
                · rw [e2] at e; have := HVL.out _ e; omega
                · have h1 := e2 _ e; have h2 := HZ1.out; omega
            · cases q3
        · clear q1' q2'
          go_wp2_with fail
          go_ret
          rcases HH.out with ⟨_, q3, _⟩ | ⟨q1, _, q2⟩
          · cases q3
          · refine over_end HU6.out HV6.out q2 q1 ?_
            have hsz7 := congrArg ByteArray.size HPE.out
            simp only [ByteArray.size_append] at hsz7 ⊢
            have h40 : (⟨#[40]⟩ : ByteArray).size = 1 := rfl
            have h32 : (⟨#[32]⟩ : ByteArray).size = 1 := rfl
            have h46 : (⟨#[46, 32]⟩ : ByteArray).size = 2 := rfl
            have := HPL.out
            have := HOV.out
            omega
      · have hjp : 0 < j := by omega
        have hjq : (0 : Int) < (j : Int) := by omega
        have hjd : decide ((0 : Int) < (j : Int)) = true := decide_eq_true hjq
        have M5 := Lib.hid (show S.size + 1 ≤ maxLen by unfold maxLen; omega)
        have M6 := Lib.hid (show (S.size + 1) * 1 ≤ 140737488355328 by omega)
        clear hj0
        go_upto_region 10 with (at_builtin; refine wpList_append_row ((wr.alloc (.cells #[.int .u8 xd.k, .int .i64 xd.n, .string xd.t, .slice A4 es3.length c4, .bool xd.dot] 58)).alloc (.cells #[.int .u8 32] 5)) (by rfl) (.tmp 70) (.tmp 71) 133 (by rfl) base 5 i0 _ 1 1 Try.underlying133 hi0 hz0 hz1 hz2 rfl (by decide) (.slice A5 S.size c5) S.size (Lib.strCells S) (by rfl) (HX5.out.2.1.alloc (.cells #[.int .u8 32] 5)) (.slice (some ⟨wr.heap.size + 1, 0, none⟩) 1 1) 1 [.int .u8 32] (by rfl) (.inr ⟨wr.heap.size + 1, 1, rfl, rfl, World.news_of_block (alloc2 wr (.cells #[.int .u8 xd.k, .int .i64 xd.n, .string xd.t, .slice A4 es3.length c4, .bool xd.dot] 58) (.cells #[.int .u8 32] 5))⟩) (byte_one 32) M5.out M6.out (by simp; omega) ?_; intro v1 w4 ho4 hg4 hat4; obtain ⟨A3, c3, rfl⟩ := own_form ho4; have hwr := wrote_byte (c := 32) (.cells #[.int .u8 32] 5) HX5.out ho4 hg4 hat4; obtain ⟨⟨z0, z1⟩, ⟨zf0, zf1⟩, zlt⟩ := wtr_cells (wtr_grown (HX5.out.new ((Upd.refl (fun _ => False) (wr.alloc (.cells #[.int .u8 xd.k, .int .i64 xd.n, .string xd.t, .slice A4 es3.length c4, .bool xd.dot] 58))).alloc (.cells #[.int .u8 32] 5))) hg4); have hz9 := (wtr_cells (wtr_put (bv' := .slice A3 (S.size + 1) c3) (wtr_grown (HX5.out.new ((Upd.refl (fun _ => False) (wr.alloc (.cells #[.int .u8 xd.k, .int .i64 xd.n, .string xd.t, .slice A4 es3.length c4, .bool xd.dot] 58))).alloc (.cells #[.int .u8 32] 5))) hg4))).1.1; have HWR6 := Lib.hid hwr; clear ho4 hg4 hat4 hwr)
        have HS6 : Hid ((S ++ ⟨#[32]⟩).size = S.size + 1) := Lib.hid (by rw [ByteArray.size_append]; rfl)
        generalize w4.setCell ⟨wb, 0, none⟩ (.slice A3 (S.size + 1) c3) = W6 at *
        clear z0 z1 zf0 zf1 zlt hz9
        have HW6 := Lib.hid (wrote_trans (HUU.out.trans (HNB.out.mono fun _ _ x => x.elim)) HVV.out HWR6.out)
        obtain ⟨v9, _, hu9, _⟩ := HWR6.out
        have hnk : ¬ (wr.heap.size = wb ∨ (Value.slice A5 S.size c5).ownBlock = some wr.heap.size) := by
          rintro (e | e)
          · omega
          · have := HXE.out _ e; omega
        have hnh : ¬ (w.heap.size = wb ∨ (Value.slice A5 S.size c5).ownBlock = some w.heap.size) := by
          rintro (e | e)
          · omega
          · rcases HVV.out with e2 | e2
            · rw [e2] at e; have := HVL.out _ e; omega
            · have h1 := e2 _ e; have h2 := HZ1.out; omega
        have hng : ∀ q, G q → ¬ (q = wb ∨ (Value.slice A5 S.size c5).ownBlock = some q) := by
          rintro q hq (e | e)
          · exact hG (e ▸ hq)
          · rcases HVV.out with e2 | e2
            · rw [e2] at e; exact HGv.out q e hq
            · have h1 := e2 q e; have h2 := HGB.out q hq; have h3 := HZ1.out; omega
        have HKB6 := Lib.hid (hu9.heap HKB5.out hnk)
        have HBR6 := Lib.hid (hu9.heap HBR5.out hnh)
        have HK6 := Lib.hid (HK5.out.upd hu9 hng)
        clear hu9 hnk hnh hng
        have hS6 : (S ++ ⟨#[32]⟩).size + 4 * xd.hgt ≤ 2000000 := by rw [HS6.out]; have h1 := HSP.out hjp; have h2 := HHJ.out.2; omega
        obtain ⟨⟨p0, p1, p2, p3, p4⟩, pf⟩ := blk5 HBR6.out
        have g1 : IntKind.i64.wrap ((es.length : Int) - 1) = (es.length : Int) - 1 := IntWalk.i64_in _ (by omega)
        by_cases hla : j + 1 = es.length
        · have g2 : ((j : Int) == (es.length : Int) - 1) = true := by simp; omega
          have HLA := Lib.hid hla
          clear hla
          obtain ⟨v9, ht9, hu9a, hv9a⟩ := HWR6.out
          have HKO : Hid (v9.ownBlock ≠ some wr.heap.size) := Lib.hid (fun e => by
            rcases hv9a with e2 | e2
            · rw [e2] at e; have := HXE.out _ e; omega
            · have h1 := e2 _ e; simp at h1; omega)
          obtain ⟨hu9, hv9⟩ := wrote_cat (HUU.out.trans (HNB.out.mono fun _ _ x => x.elim)) HVV.out hu9a hv9a
          clear hu9a hv9a
          obtain ⟨A6, c6, rfl⟩ := own_form ht9.2.1
          generalize hS9 : S ++ ⟨#[32]⟩ = S6 at *
          have HS9 := Lib.hid hS9
          clear hS9
          obtain ⟨⟨d0, d1⟩, ⟨df0, df1⟩, dlt⟩ := wtr_cells ht9.1
          have HX6 := Lib.hid ht9
          have HU9 := Lib.hid hu9
          have HV9 := Lib.hid hv9
          have hw2 : (⟨#[46, 32]⟩ : ByteArray).size = 2 := rfl
          have M7 := Lib.hid (show S6.size + (⟨#[46, 32]⟩ : ByteArray).size ≤ maxLen by rw [hw2]; unfold maxLen; omega)
          have M8 := Lib.hid (show S6.size + (⟨#[46, 32]⟩ : ByteArray).size ≤ 140737488355328 by rw [hw2]; omega)
          have hb6 : base ≤ W6.heap.size := by have h1 := hu9.size; have h2 := HZ1.out; omega
          clear ht9 hu9 hv9 hw2
          go_upto_region 12 with (at_builtin; refine wpList_append_text W6 (by rfl) (.tmp 89) (.const (.string ⟨#[46, 32]⟩)) 133 9 (by rfl) base 5 i0 Try.underlying133 Try.underlying9 hi0 hz0 hz1 hz2 (.slice A6 S6.size c6) S6.size (Lib.strCells S6) (by rfl) HX6.out.2.1 (⟨#[46, 32]⟩ : ByteArray) (by rfl) M7.out M8.out hb6 ?_; intro v1 w4 ho4 hg4 hat4; obtain ⟨A3, c3, rfl⟩ := own_form ho4; have hwr := wrote_step HX6.out ho4 hg4 hat4; obtain ⟨⟨z0, z1⟩, ⟨zf0, zf1⟩, zlt⟩ := wtr_cells (wtr_grown HX6.out hg4); have HWR7 := Lib.hid hwr; have hz9 := (wtr_cells (wtr_put (bv' := .slice A3 (S6.size + (⟨#[46, 32]⟩ : ByteArray).size) c3) (wtr_grown HX6.out hg4))).1.1; clear ho4 hg4 hat4 hwr)
          generalize hW7 : w4.setCell ⟨wb, 0, none⟩ (.slice A3 (S6.size + 2) c3) = W7 at *
          rw [show S6.size + (⟨#[46, 32]⟩ : ByteArray).size = S6.size + 2 from rfl, hW7] at HWR7
          clear hW7
          clear z0 z1 zf0 zf1 zlt hz9 d0 d1 df0 df1
          have HW7 := Lib.hid (wrote_trans HU9.out HV9.out HWR7.out)
          obtain ⟨v9, _, hu9, _⟩ := HWR7.out
          have hxe6 := own_lt HX6.out.2.1
          have hnk : ¬ (wr.heap.size = wb ∨ (Value.slice A6 S6.size c6).ownBlock = some wr.heap.size) := by
            rintro (e | e)
            · omega
            · exact HKO.out e
          have hnh : ¬ (w.heap.size = wb ∨ (Value.slice A6 S6.size c6).ownBlock = some w.heap.size) := by
            rintro (e | e)
            · omega
            · rcases HV9.out with e2 | e2
              · rw [e2] at e; have := HVL.out _ e; omega
              · have h1 := e2 _ e; have h2 := HZ1.out; omega
          have hng : ∀ q, G q → ¬ (q = wb ∨ (Value.slice A6 S6.size c6).ownBlock = some q) := by
            rintro q hq (e | e)
            · exact hG (e ▸ hq)
            · rcases HV9.out with e2 | e2
              · rw [e2] at e; exact HGv.out q e hq
              · have h1 := e2 q e; have h2 := HGB.out q hq; have h3 := HZ1.out; omega
          have HKB7 := Lib.hid (hu9.heap HKB6.out hnk)
          have HBR7 := Lib.hid (hu9.heap HBR6.out hnh)
          have HK7 := Lib.hid (HK6.out.upd hu9 hng)
          clear hu9 hnk hnh hng hxe6 p0 p1 p2 p3
          have hS7 : (S6 ++ ⟨#[46, 32]⟩).size + 4 * xd.hgt ≤ 2000000 := by rw [ByteArray.size_append]; have : (⟨#[46, 32]⟩ : ByteArray).size = 2 := rfl; have h0 := HS6.out; have h1 := HSP.out hjp; have h2 := HHJ.out.2; omega
          obtain ⟨v6, ht6, hu6, hv6⟩ := HW7.out
          have hcall := IHJ.out (.slice A4 es3.length c4) G base wb m (S6 ++ ⟨#[46, 32]⟩) v6 W7 HK7.out (fun q hq => Nat.lt_of_lt_of_le (HGB.out q hq) (by have h1 := hu6.size; have h2 := HZ1.out; omega)) hG (fun q hq hg => by
            rcases hv6 with e | e
            · rw [e] at hq; exact HGv.out q hq hg
            · have h1 := e q hq; have h2 := HGB.out q hg; have h3 := HZ1.out; omega) ht6 (by have h1 := hu6.size; have h2 := HZ1.out; omega) hS7 HHJ.out.2 HWJ.out HMJ.out
          have HPE := Lib.hid (show s ++ (⟨#[40]⟩ ++ preT ((es.map El.d).map txtD) es.length true (j + 1)) = (S6 ++ ⟨#[46, 32]⟩) ++ txtD xd from (by have h := piece_c s ⟨#[40]⟩ ((es.map El.d).map txtD) es.length true j _ HGT.out hjp ⟨rfl, HLA.out⟩; rw [HSJ.out, HS9.out] at h; exact h))
          obtain ⟨⟨k0, k1, k2, k3, k4⟩, kf⟩ := blk5 HKB7.out
          have HC := Lib.hid hcall
          have HU6 := Lib.hid hu6
          have HV6 := Lib.hid hv6
          have HB6 := HBR7
          clear hcall hu6 hv6 ht6 y0 y1 yf0 yf1 x0 x1 x2 x3 x4 r0 r1 r2 r3
          unfold datV at HC
          go_wp2_with fail
          refine HC.out.mono ?_
          rintro e w7 h
          have HH := Lib.hid h
          rcases h with ⟨q1', rfl, q2'⟩ | ⟨q1', rfl, q2'⟩
          · clear q1' q2'
            go_wp2_with fail
            go_roundw
            case measure => simp [intOf]; omega
            case rel =>
              rcases HH.out with ⟨q1, _, q2⟩ | ⟨_, q3, _⟩
              · have hfin := wrote_trans HU6.out HV6.out q2
                rw [← HPE.out] at hfin
                have hsz7 := congrArg ByteArray.size HPE.out
                simp only [ByteArray.size_append] at hsz7 q1
                have h40 : (⟨#[40]⟩ : ByteArray).size = 1 := rfl
                have h32 : (⟨#[32]⟩ : ByteArray).size = 1 := rfl
                have h46 : (⟨#[46, 32]⟩ : ByteArray).size = 2 := rfl
                obtain ⟨v8, _, hu8, _⟩ := q2
                refine ⟨j + 1, by omega, by simp, hfin, hu8.heap HB6.out ?_, by omega, by omega⟩
                rintro (e | e)
                · omega
                · rcases HV6.out with e2 | e2
                  · rw [e2] at e; have := HVL.out _ e; omega
                  · have h1 := e2 _ e; have h2 := HZ1.out; omega
              · cases q3
          · clear q1' q2'
            go_wp2_with fail
            go_ret
            rcases HH.out with ⟨_, q3, _⟩ | ⟨q1, _, q2⟩
            · cases q3
            · refine over_end HU6.out HV6.out q2 q1 ?_
              have hsz7 := congrArg ByteArray.size HPE.out
              simp only [ByteArray.size_append] at hsz7 ⊢
              have h40 : (⟨#[40]⟩ : ByteArray).size = 1 := rfl
              have h32 : (⟨#[32]⟩ : ByteArray).size = 1 := rfl
              have h46 : (⟨#[46, 32]⟩ : ByteArray).size = 2 := rfl
              have := HPL.out
              have := HOV.out
              omega
        · have g2 : ((j : Int) == (es.length : Int) - 1) = false := by simp; omega
          have HLA := Lib.hid hla
          clear hla
          obtain ⟨v6, ht6, hu6, hv6⟩ := HW6.out
          have hcall := IHJ.out (.slice A4 es3.length c4) G base wb m (S ++ ⟨#[32]⟩) v6 W6 HK6.out (fun q hq => Nat.lt_of_lt_of_le (HGB.out q hq) (by have h1 := hu6.size; have h2 := HZ1.out; omega)) hG (fun q hq hg => by
            rcases hv6 with e | e
            · rw [e] at hq; exact HGv.out q hq hg
            · have h1 := e q hq; have h2 := HGB.out q hg; have h3 := HZ1.out; omega) ht6 (by have h1 := hu6.size; have h2 := HZ1.out; omega) hS6 HHJ.out.2 HWJ.out HMJ.out
          have HPE := Lib.hid (show s ++ (⟨#[40]⟩ ++ preT ((es.map El.d).map txtD) es.length true (j + 1)) = (S ++ ⟨#[32]⟩) ++ txtD xd from (by have h := piece_b s ⟨#[40]⟩ ((es.map El.d).map txtD) es.length true j _ HGT.out hjp (fun h => HLA.out h.2); rw [HSJ.out] at h; exact h))
          obtain ⟨⟨k0, k1, k2, k3, k4⟩, kf⟩ := blk5 HKB6.out
          have HC := Lib.hid hcall
          have HU6 := Lib.hid hu6
          have HV6 := Lib.hid hv6
          have HB6 := HBR6
          clear hcall hu6 hv6 ht6 y0 y1 yf0 yf1 x0 x1 x2 x3 x4 r0 r1 r2 r3
          unfold datV at HC
          go_wp2_with fail
          refine HC.out.mono ?_
          rintro e w7 h
          have HH := Lib.hid h
          rcases h with ⟨q1', rfl, q2'⟩ | ⟨q1', rfl, q2'⟩
          · clear q1' q2'
            go_wp2_with fail
            go_roundw
            case measure => simp [intOf]; omega
            case rel =>
              rcases HH.out with ⟨q1, _, q2⟩ | ⟨_, q3, _⟩
              · have hfin := wrote_trans HU6.out HV6.out q2
                rw [← HPE.out] at hfin
                have hsz7 := congrArg ByteArray.size HPE.out
                simp only [ByteArray.size_append] at hsz7 q1
                have h40 : (⟨#[40]⟩ : ByteArray).size = 1 := rfl
                have h32 : (⟨#[32]⟩ : ByteArray).size = 1 := rfl
                have h46 : (⟨#[46, 32]⟩ : ByteArray).size = 2 := rfl
                obtain ⟨v8, _, hu8, _⟩ := q2
                refine ⟨j + 1, by omega, by simp, hfin, hu8.heap HB6.out ?_, by omega, by omega⟩
                rintro (e | e)
                · omega
                · rcases HV6.out with e2 | e2
                  · rw [e2] at e; have := HVL.out _ e; omega
                  · have h1 := e2 _ e; have h2 := HZ1.out; omega
              · cases q3
          · clear q1' q2'
            go_wp2_with fail
            go_ret
            rcases HH.out with ⟨_, q3, _⟩ | ⟨q1, _, q2⟩
            · cases q3
            · refine over_end HU6.out HV6.out q2 q1 ?_
              have hsz7 := congrArg ByteArray.size HPE.out
              simp only [ByteArray.size_append] at hsz7 ⊢
              have h40 : (⟨#[40]⟩ : ByteArray).size = 1 := rfl
              have h32 : (⟨#[32]⟩ : ByteArray).size = 1 := rfl
              have h46 : (⟨#[46, 32]⟩ : ByteArray).size = 2 := rfl
              have := HPL.out
              have := HOV.out
              omega
    · have hje : j = es.length := by omega
      have q1 : ¬ (j : Int) < es.length := by omega
      obtain ⟨v', htx, hu, hv⟩ := hsf
      obtain ⟨A5, c5, rfl⟩ := own_form htx.2.1
      obtain ⟨⟨y0, y1⟩, ⟨yf0, yf1⟩, ylt⟩ := wtr_cells htx.1
      have hTX := Lib.hid htx
      have HUU := Lib.hid hu
      have HVV := Lib.hid hv
      have hS : (s ++ (⟨#[40]⟩ ++ preT ((es.map El.d).map txtD) es.length true j)).size ≤ 2000001 := by
        simp only [ByteArray.size_append]; exact hsz
      have hTT : s ++ txtD (.mk 5 n t (es.map El.d) true) = (s ++ (⟨#[40]⟩ ++ preT ((es.map El.d).map txtD) es.length true j)) ++ ⟨#[41]⟩ := by
        rw [HT.out, hje]; simp only [ByteArray.append_assoc]
      have HTT := Lib.hid hTT
      generalize s ++ (⟨#[40]⟩ ++ preT ((es.map El.d).map txtD) es.length true j) = S at *
      have M5 := Lib.hid (show S.size + 1 ≤ maxLen by unfold maxLen; omega)
      have M6 := Lib.hid (show (S.size + 1) * 1 ≤ 140737488355328 by omega)
      have hbr : base ≤ wr.heap.size := by have h1 := hu.size; have h2 := HZ1.out; omega
      clear htx hu hv hS hTT
      go_wp2_with (at_builtin; refine wpList_append_row (wr.alloc (.cells #[.int .u8 41] 5)) (by rfl) (.tmp 102) (.tmp 103) 133 (by rfl) base 5 i0 _ 1 1 Try.underlying133 hi0 hz0 hz1 hz2 rfl (by decide) (.slice A5 S.size c5) S.size (Lib.strCells S) (by rfl) (hTX.out.2.1.alloc (.cells #[.int .u8 41] 5)) (.slice (some ⟨wr.heap.size, 0, none⟩) 1 1) 1 [.int .u8 41] (by rfl) (.inr ⟨wr.heap.size, 1, rfl, rfl, World.news_of_block (heap_alloc_new wr (.cells #[.int .u8 41] 5))⟩) (byte_one 41) M5.out M6.out (by simp; omega) ?_; intro v1 w4 ho4 hg4 hat4; obtain ⟨A3, c3, rfl⟩ := own_form ho4; have hwr := wrote_byte (c := 41) (.cells #[.int .u8 41] 5) hTX.out ho4 hg4 hat4; obtain ⟨⟨z0, z1⟩, ⟨zf0, zf1⟩, zlt⟩ := wtr_cells (wtr_grown (hTX.out.new ((Upd.refl (fun _ => False) wr).alloc (.cells #[.int .u8 41] 5))) hg4); have hz9 := (wtr_cells (wtr_put (bv' := .slice A3 (S.size + 1) c3) (wtr_grown (hTX.out.new ((Upd.refl (fun _ => False) wr).alloc (.cells #[.int .u8 41] 5))) hg4))).1.1; have HWR := Lib.hid hwr; clear ho4 hg4 hat4 hwr)
      go_ret
      have hfin := wrote_trans HUU.out HVV.out HWR.out
      have hsS : s.size + (txtD (.mk 5 n t (es.map El.d) true)).size = S.size + 1 := by
        have := congrArg ByteArray.size HTT.out
        simp only [ByteArray.size_append] at this
        exact this
      by_cases hc : S.size + 1 ≤ 65536
      · exact .inl ⟨by omega, (by rw [decide_eq_true (by omega)]; rfl), by rw [HTT.out]; exact hfin⟩
      · obtain ⟨v9, _, h2, _⟩ := hfin
        exact .inr ⟨by omega, (by rw [decide_eq_false (by omega)]; rfl), h2.mono fun b _ e => e.imp id .inl⟩
end Go.Proofs.Ytnnjhafjcdjobaa

namespace Go.Proofs.Ytnnjhafjcdjobaa
open Go.RowKit
set_option linter.unusedVariables false
set_option linter.unusedSimpArgs false

set_option maxHeartbeats 8000000 in
set_option maxRecDepth 20000 in
theorem list_loop_c (n : Int) (t : ByteArray) (es : List El) (A : Option Addr) (c : Nat) (ih : ∀ e ∈ es, WRITES 80 e.d) (G : Nat → Prop) (base wb : Nat) (m : Int) (s : ByteArray) (v : Value) (w : World) (hs : Seen w G (.slice A es.length c) es) (hks : ∀ e ∈ es, Sees w G e.kv e.d.kids) (hn : es.length ≤ 2000000)
    (hGb : ∀ b, G b → b < w.heap.size) (hG : ¬ G wb) (hGv : ∀ b, v.ownBlock = some b → ¬ G b) (hx : Txt w base wb m s v) (hb : base ≤ w.heap.size) (hss : s.size ≤ 2000000) (hhg : ∀ e ∈ es, s.size + 4 + 4 * e.d.hgt ≤ 2000000 ∧ e.d.hgt ≤ 70000) (hwee : weeL (es.map El.d)) (hmay : mayL (es.map El.d) = true) (hq : es.length = 2)
    (hT : txtD (.mk 5 n t (es.map El.d) true) = ⟨#[40]⟩ ++ preT ((es.map El.d).map txtD) es.length true es.length ++ ⟨#[41]⟩) :
    Calls Try.prog 110 #[.pointer (some ⟨wb, 0, none⟩), .agg #[.int .u8 5, .int .i64 n, .string t, .slice A es.length c, .bool true]] w (PutPost (.mk 5 n t (es.map El.d) true) w base wb m s v) := by
  obtain ⟨i0, hi0, hz0, hz1, hz2⟩ := info_parts info5
  obtain ⟨⟨c0, c1⟩, ⟨cf0, cf1⟩, hlt⟩ := wtr_cells hx.1
  obtain ⟨A2, c2, rfl⟩ := own_form hx.2.1
  have m3 : s.size + 1 ≤ maxLen := by unfold maxLen; omega
  have m4 : (s.size + 1) * 1 ≤ 140737488355328 := by omega
  have hn1 : New w (w.alloc (.cells #[.int .u8 5, .int .i64 n, .string t, .slice A es.length c, .bool true] 58)) := (Upd.refl (fun _ => False) w).alloc _
  suffices hsuf : Calls Try.prog 110 #[.pointer (some ⟨wb, 0, none⟩), .agg #[.int .u8 5, .int .i64 n, .string t, .slice A es.length c, .bool true]] w (PutPost (.mk 5 n t (es.map El.d) true) (w.alloc (.cells #[.int .u8 5, .int .i64 n, .string t, .slice A es.length c, .bool true] 58)) base wb m s (.slice A2 s.size c2)) from hsuf.mono fun e w' h => putpost_pre hn1 h
  have HX := Lib.hid (hx.new hn1)
  have M3 := Lib.hid m3
  have M4 := Lib.hid m4
  have hq1 : ((es.length : Int) == 2) = true := by simp; omega
  have hdl : 2 ≤ es.length := by omega
  have HQ := Lib.hid hq
  clear hq
  have HGv := Lib.hid hGv
  have hvl : ∀ q, (Value.slice A2 s.size c2).ownBlock = some q → q < w.heap.size := fun q hq => (own_lt hx.2.1 q hq).2
  have HVL := Lib.hid hvl
  have HS := Lib.hid (hs.new hn1)
  have HKS := Lib.hid (fun e he => (hks e he).new hn1)
  have HN1 := Lib.hid hn1
  have hbx := heap_alloc_new w (.cells #[.int .u8 5, .int .i64 n, .string t, .slice A es.length c, .bool true] 58)
  have HBX := Lib.hid hbx
  have HT := Lib.hid hT
  have HW := Lib.hid (weeL_mem hwee)
  have HM := Lib.hid (mayL_mem hmay)
  have HIH := Lib.hid ih
  have HHG := Lib.hid hhg
  have HGB := Lib.hid hGb
  have HZ1 : Hid ((w.alloc (.cells #[.int .u8 5, .int .i64 n, .string t, .slice A es.length c, .bool true] 58)).heap.size = w.heap.size + 1) := Lib.hid (by simp)
  clear hGv hvl hs hks hn1 hx hbx m3 m4 hT hwee hmay ih hGb hhg
  go_enter Try.func110, Try.ntmps110
  go_upto_region 5 with (at_builtin; refine wpList_append_row ((w.alloc (.cells #[.int .u8 5, .int .i64 n, .string t, .slice A es.length c, .bool true] 58)).alloc (.cells #[.int .u8 40] 5)) (by rfl) (.tmp 51) (.tmp 52) 133 (by rfl) base 5 i0 _ 1 1 Try.underlying133 hi0 hz0 hz1 hz2 rfl (by decide) (.slice A2 s.size c2) s.size (Lib.strCells s) (by rfl) (HX.out.2.1.alloc (.cells #[.int .u8 40] 5)) (.slice (some ⟨w.heap.size + 1, 0, none⟩) 1 1) 1 [.int .u8 40] (by rfl) (.inr ⟨w.heap.size + 1, 1, rfl, rfl, World.news_of_block (alloc2 w (.cells #[.int .u8 5, .int .i64 n, .string t, .slice A es.length c, .bool true] 58) (.cells #[.int .u8 40] 5))⟩) (byte_one 40) M3.out M4.out (by simp; omega) ?_; intro v1 w4 ho4 hg4 hat4; obtain ⟨A3, c3, rfl⟩ := own_form ho4; have hwr := wrote_byte (c := 40) (.cells #[.int .u8 40] 5) HX.out ho4 hg4 hat4; obtain ⟨⟨z0, z1⟩, ⟨zf0, zf1⟩, zlt⟩ := wtr_cells (wtr_grown (HX.out.new ((Upd.refl (fun _ => False) (w.alloc (.cells #[.int .u8 5, .int .i64 n, .string t, .slice A es.length c, .bool true] 58))).alloc (.cells #[.int .u8 40] 5))) hg4); have hz9 := (wtr_cells (wtr_put (bv' := .slice A3 (s.size + 1) c3) (wtr_grown (HX.out.new ((Upd.refl (fun _ => False) (w.alloc (.cells #[.int .u8 5, .int .i64 n, .string t, .slice A es.length c, .bool true] 58))).alloc (.cells #[.int .u8 40] 5))) hg4))).1.1; have HWR := Lib.hid hwr; clear ho4 hg4 hat4 hwr)
  generalize w4.setCell ⟨wb, 0, none⟩ (.slice A3 (s.size + 1) c3) = W5 at *
  have hfG : ∀ q, G q → ¬ (q = wb ∨ (Value.slice A2 s.size c2).ownBlock = some q) := fun q hq e => by
    rcases e with e | e
    · exact hG (e ▸ hq)
    · exact HGv.out q e hq
  have hHne : ¬ (w.heap.size = wb ∨ (Value.slice A2 s.size c2).ownBlock = some w.heap.size) := fun e => by
    rcases e with e | e
    · omega
    · have := HVL.out _ e; omega
  have hbx5 : W5.heap[w.heap.size]? = some (.cells #[.int .u8 5, .int .i64 n, .string t, .slice A es.length c, .bool true] 58 (0, 0)) := by
    obtain ⟨v', _, hu5, _⟩ := HWR.out
    exact hu5.heap HBX.out hHne
  obtain ⟨⟨e0, e1, e2, e3, e4⟩, ef⟩ := blk5 hbx5
  have HBX5 := Lib.hid hbx5
  have HFG := Lib.hid hfG
  clear hbx5 z0 z1 zf0 zf1 zlt hz9 c0 c1 cf0 cf1 hfG hHne
  go_wp2_with fail
  have hszI : (es.length : Int) ≤ 2000000 := by omega
  go_loopw [59] (fun i wr => ∃ j : Nat, j ≤ es.length ∧ i = .int .i64 j ∧ Sofar (w.alloc (.cells #[.int .u8 5, .int .i64 n, .string t, .slice A es.length c, .bool true] 58)) base wb m (s ++ (⟨#[40]⟩ ++ preT ((es.map El.d).map txtD) es.length true j)) (.slice A2 s.size c2) wr ∧ wr.heap[w.heap.size]? = some (.cells #[.int .u8 5, .int .i64 n, .string t, .slice A es.length c, .bool true] 58 (0, 0)) ∧ s.size + (1 + (preT ((es.map El.d).map txtD) es.length true j).size) ≤ 2000001 ∧ (0 < j → s.size + (1 + (preT ((es.map El.d).map txtD) es.length true j).size) ≤ 65536)) (fun i _ => es.length - (intOf i).toNat)
  case atStart =>
    have e1 : (⟨#[40]⟩ : ByteArray) ++ preT ((es.map El.d).map txtD) es.length true 0 = ⟨#[40]⟩ := rfl
    have e2 : (preT ((es.map El.d).map txtD) es.length true 0).size = 0 := rfl
    exact ⟨0, Nat.zero_le _, rfl, (by rw [e1]; exact HWR.out), HBX5.out, (by omega), (by omega)⟩
  case round =>
    obtain ⟨j, hj, rfl, hsf, hbxr, hsz, hszp⟩ := hrel
    have HSZP := Lib.hid hszp
    clear hszp
    by_cases hjl : j < es.length
    · obtain ⟨v', htx, hu, hv⟩ := hsf
      obtain ⟨A5, c5, rfl⟩ := own_form htx.2.1
      obtain ⟨⟨y0, y1⟩, ⟨yf0, yf1⟩, ylt⟩ := wtr_cells htx.1
      obtain ⟨g, o, cc, hA, hGg, hltg, x0, x1, x2, x3, x4⟩ := (HS.out.upd hu HFG.out).at j hjl
      simp only [Value.slice.injEq] at hA
      obtain ⟨rfl, -, -⟩ := hA
      have hmem := List.getElem_mem hjl
      have hkk := (HKS.out _ hmem).upd hu HFG.out
      obtain ⟨es3, hes3, hseen3, _⟩ := hkk.inv
      obtain ⟨A4, c4, hkv⟩ := hseen3.form
      have q0 : (0 : Int) ≤ j := by omega
      have q1 : (j : Int) < es.length := by omega
      have q2 : IntKind.i64.wrap ((j : Int) + 1) = (j : Int) + 1 := IntWalk.i64_in _ (by omega)
      obtain ⟨⟨r0, r1, r2, r3, r4⟩, rf⟩ := blk5 hbxr
      have hblt : w.heap.size < wr.heap.size := (Array.getElem?_eq_some_iff.1 hbxr).1
      have hbr : base ≤ wr.heap.size := by omega
      have hSz : (s ++ (⟨#[40]⟩ ++ preT ((es.map El.d).map txtD) es.length true j)).size ≤ 2000001 := by simp only [ByteArray.size_append]; exact hsz
      have hxe : ∀ q, (Value.slice A5 (s ++ (⟨#[40]⟩ ++ preT ((es.map El.d).map txtD) es.length true j)).size c5).ownBlock = some q → q < wr.heap.size := fun q hq => (own_lt htx.2.1 q hq).2
      have HXE := Lib.hid hxe
      have HS0 : Hid (j = 0 → (s ++ (⟨#[40]⟩ ++ preT ((es.map El.d).map txtD) es.length true j)).size = s.size + 1) := Lib.hid (fun h => by subst h; simp only [ByteArray.size_append]; rfl)
      have HSP : Hid (0 < j → (s ++ (⟨#[40]⟩ ++ preT ((es.map El.d).map txtD) es.length true j)).size ≤ 65536) := Lib.hid (fun h => by simp only [ByteArray.size_append]; exact HSZP.out h)
      have HHJ := Lib.hid (HHG.out _ hmem)
      have HKK := Lib.hid hkk
      have HTX := Lib.hid htx
      have HUU := Lib.hid hu
      have HVV := Lib.hid hv
      have HBR := Lib.hid hbxr
      have IHJ := Lib.hid (HIH.out _ hmem)
      have HWJ := Lib.hid (HW.out _ (List.mem_map.2 ⟨_, hmem, rfl⟩))
      have HMJ := Lib.hid (HM.out _ (List.mem_map.2 ⟨_, hmem, rfl⟩))
      have HGT := Lib.hid (getD_txt es j hjl)
      have hov : (txtD (.mk 5 n t (es.map El.d) true)).size = 1 + (preT ((es.map El.d).map txtD) es.length true es.length).size + 1 := by rw [HT.out, ByteArray.size_append, ByteArray.size_append]; rfl
      have HOV := Lib.hid hov
      have HPL := Lib.hid (preT_le ((es.map El.d).map txtD) es.length true (j + 1) es.length hjl)
      generalize hV : es[j] = X at *
      obtain ⟨xd, xkv, xbs⟩ := X
      simp only at *
      subst hkv
      generalize hSJ : s ++ (⟨#[40]⟩ ++ preT ((es.map El.d).map txtD) es.length true j) = S at *
      have HSJ := Lib.hid hSJ
      clear hkk htx hu hv hmem hes3 hseen3 hov hxe hV hbxr hSJ hsz
      have hnb : New wr (wr.alloc (.cells #[.int .u8 xd.k, .int .i64 xd.n, .string xd.t, .slice A4 es3.length c4, .bool xd.dot] 58)) := (Upd.refl (fun _ => False) wr).alloc _
      have HKB5 := Lib.hid (heap_alloc_new wr (.cells #[.int .u8 xd.k, .int .i64 xd.n, .string xd.t, .slice A4 es3.length c4, .bool xd.dot] 58))
      have HNB := Lib.hid hnb
      have HX5 := Lib.hid (HTX.out.new hnb)
      have HBR5 := Lib.hid (hnb.heap HBR.out (fun x => x))
      have HK5 := Lib.hid (HKK.out.new hnb)
      have HW5 := Lib.hid (show Wrote (w.alloc (.cells #[.int .u8 5, .int .i64 n, .string t, .slice (some ⟨g, o, none⟩) es.length c, .bool true] 58)) base wb m S (.slice A2 s.size c2) (wr.alloc (.cells #[.int .u8 xd.k, .int .i64 xd.n, .string xd.t, .slice A4 es3.length c4, .bool xd.dot] 58)) from ⟨_, HX5.out, HUU.out.trans (hnb.mono fun _ _ x => x.elim), HVV.out⟩)
      clear hnb
      by_cases hj0 : j = 0
      · have HJ0 := Lib.hid hj0
        have hjd : decide ((0 : Int) < (j : Int)) = false := decide_eq_false (by omega)
        have hjm : ¬ ((0 : Int) < (j : Int)) := by omega
        clear hj0
        go_upto_region 10 with (fail)
        clear hjd hjm
        have hS5 : S.size + 4 * xd.hgt ≤ 2000000 := by have h1 := HS0.out HJ0.out; have h2 := HHJ.out.1; omega
        have hnl : ¬ (true = true ∧ j + 1 = es.length) := fun h => by have h1 := h.2; have h2 := HJ0.out; omega
        have g1 : IntKind.i64.wrap ((es.length : Int) - 1) = (es.length : Int) - 1 := IntWalk.i64_in _ (by omega)
        have g2 : ((j : Int) == (es.length : Int) - 1) = false := by have h2 := HJ0.out; simp; omega
        generalize wr.alloc (.cells #[.int .u8 xd.k, .int .i64 xd.n, .string xd.t, .slice A4 es3.length c4, .bool xd.dot] 58) = W6 at *
        obtain ⟨⟨p0, p1, p2, p3, p4⟩, pf⟩ := blk5 HBR5.out
        obtain ⟨v6, ht6, hu6, hv6⟩ := HW5.out
        have hcall := IHJ.out (.slice A4 es3.length c4) G base wb m S v6 W6 HK5.out (fun q hq => Nat.lt_of_lt_of_le (HGB.out q hq) (by have h1 := hu6.size; have h2 := HZ1.out; omega)) hG (fun q hq hg => by
          rcases hv6 with e | e
          · rw [e] at hq; exact HGv.out q hq hg
          · have h1 := e q hq; have h2 := HGB.out q hg; have h3 := HZ1.out; omega) ht6 (by have h1 := hu6.size; have h2 := HZ1.out; omega) hS5 HHJ.out.2 HWJ.out HMJ.out
        have HPE := Lib.hid (show s ++ (⟨#[40]⟩ ++ preT ((es.map El.d).map txtD) es.length true (j + 1)) = S ++ txtD xd from (by have h := piece_a s ⟨#[40]⟩ ((es.map El.d).map txtD) es.length true j _ HGT.out HJ0.out hnl; rw [HSJ.out] at h; exact h))
        obtain ⟨⟨k0, k1, k2, k3, k4⟩, kf⟩ := blk5 HKB5.out
        have HC := Lib.hid hcall
        have HU6 := Lib.hid hu6
        have HV6 := Lib.hid hv6
        have HB6 := HBR5
        clear hcall hu6 hv6 ht6 y0 y1 yf0 yf1 x0 x1 x2 x3 x4 r0 r1 r2 r3
        unfold datV at HC
        go_wp2_with fail
        refine HC.out.mono ?_
        rintro e w7 h
        have HH := Lib.hid h
        rcases h with ⟨q1', rfl, q2'⟩ | ⟨q1', rfl, q2'⟩
        · clear q1' q2'
          go_wp2_with fail
          go_roundw
          case measure => simp [intOf]; omega
          case rel =>
            rcases HH.out with ⟨q1, _, q2⟩ | ⟨_, q3, _⟩
            · have hfin := wrote_trans HU6.out HV6.out q2
              rw [← HPE.out] at hfin
              have hsz7 := congrArg ByteArray.size HPE.out
              simp only [ByteArray.size_append] at hsz7 q1
              have h40 : (⟨#[40]⟩ : ByteArray).size = 1 := rfl
              have h32 : (⟨#[32]⟩ : ByteArray).size = 1 := rfl
              have h46 : (⟨#[46, 32]⟩ : ByteArray).size = 2 := rfl
              obtain ⟨v8, _, hu8, _⟩ := q2
              refine ⟨j + 1, by omega, by simp, hfin, hu8.heap HB6.out ?_, by omega, by omega⟩
              rintro (e | e)
              · omega
              · rcases HV6.out with e2 | e2
                · rw [e2] at e; have := HVL.out _ e; omega
                · have h1 := e2 _ e; have h2 := HZ1.out; omega
            · cases q3
        · clear q1' q2'
          go_wp2_with fail
          go_ret
          rcases HH.out with ⟨_, q3, _⟩ | ⟨q1, _, q2⟩
          · cases q3
          · refine over_end HU6.out HV6.out q2 q1 ?_
            have hsz7 := congrArg ByteArray.size HPE.out
            simp only [ByteArray.size_append] at hsz7 ⊢
            have h40 : (⟨#[40]⟩ : ByteArray).size = 1 := rfl
            have h32 : (⟨#[32]⟩ : ByteArray).size = 1 := rfl
            have h46 : (⟨#[46, 32]⟩ : ByteArray).size = 2 := rfl
            have := HPL.out
            have := HOV.out
            omega
      · have hjp : 0 < j := by omega
        have hjq : (0 : Int) < (j : Int) := by omega
        have hjd : decide ((0 : Int) < (j : Int)) = true := decide_eq_true hjq
        have M5 := Lib.hid (show S.size + 1 ≤ maxLen by unfold maxLen; omega)
        have M6 := Lib.hid (show (S.size + 1) * 1 ≤ 140737488355328 by omega)
        clear hj0
        go_upto_region 10 with (at_builtin; refine wpList_append_row ((wr.alloc (.cells #[.int .u8 xd.k, .int .i64 xd.n, .string xd.t, .slice A4 es3.length c4, .bool xd.dot] 58)).alloc (.cells #[.int .u8 32] 5)) (by rfl) (.tmp 70) (.tmp 71) 133 (by rfl) base 5 i0 _ 1 1 Try.underlying133 hi0 hz0 hz1 hz2 rfl (by decide) (.slice A5 S.size c5) S.size (Lib.strCells S) (by rfl) (HX5.out.2.1.alloc (.cells #[.int .u8 32] 5)) (.slice (some ⟨wr.heap.size + 1, 0, none⟩) 1 1) 1 [.int .u8 32] (by rfl) (.inr ⟨wr.heap.size + 1, 1, rfl, rfl, World.news_of_block (alloc2 wr (.cells #[.int .u8 xd.k, .int .i64 xd.n, .string xd.t, .slice A4 es3.length c4, .bool xd.dot] 58) (.cells #[.int .u8 32] 5))⟩) (byte_one 32) M5.out M6.out (by simp; omega) ?_; intro v1 w4 ho4 hg4 hat4; obtain ⟨A3, c3, rfl⟩ := own_form ho4; have hwr := wrote_byte (c := 32) (.cells #[.int .u8 32] 5) HX5.out ho4 hg4 hat4; obtain ⟨⟨z0, z1⟩, ⟨zf0, zf1⟩, zlt⟩ := wtr_cells (wtr_grown (HX5.out.new ((Upd.refl (fun _ => False) (wr.alloc (.cells #[.int .u8 xd.k, .int .i64 xd.n, .string xd.t, .slice A4 es3.length c4, .bool xd.dot] 58))).alloc (.cells #[.int .u8 32] 5))) hg4); have hz9 := (wtr_cells (wtr_put (bv' := .slice A3 (S.size + 1) c3) (wtr_grown (HX5.out.new ((Upd.refl (fun _ => False) (wr.alloc (.cells #[.int .u8 xd.k, .int .i64 xd.n, .string xd.t, .slice A4 es3.length c4, .bool xd.dot] 58))).alloc (.cells #[.int .u8 32] 5))) hg4))).1.1; have HWR6 := Lib.hid hwr; clear ho4 hg4 hat4 hwr)
        have HS6 : Hid ((S ++ ⟨#[32]⟩).size = S.size + 1) := Lib.hid (by rw [ByteArray.size_append]; rfl)
        generalize w4.setCell ⟨wb, 0, none⟩ (.slice A3 (S.size + 1) c3) = W6 at *
        clear z0 z1 zf0 zf1 zlt hz9
        have HW6 := Lib.hid (wrote_trans (HUU.out.trans (HNB.out.mono fun _ _ x => x.elim)) HVV.out HWR6.out)
        obtain ⟨v9, _, hu9, _⟩ := HWR6.out
        have hnk : ¬ (wr.heap.size = wb ∨ (Value.slice A5 S.size c5).ownBlock = some wr.heap.size) := by
          rintro (e | e)
          · omega
          · have := HXE.out _ e; omega
        have hnh : ¬ (w.heap.size = wb ∨ (Value.slice A5 S.size c5).ownBlock = some w.heap.size) := by
          rintro (e | e)
          · omega
          · rcases HVV.out with e2 | e2
            · rw [e2] at e; have := HVL.out _ e; omega
            · have h1 := e2 _ e; have h2 := HZ1.out; omega
        have hng : ∀ q, G q → ¬ (q = wb ∨ (Value.slice A5 S.size c5).ownBlock = some q) := by
          rintro q hq (e | e)
          · exact hG (e ▸ hq)
          · rcases HVV.out with e2 | e2
            · rw [e2] at e; exact HGv.out q e hq
            · have h1 := e2 q e; have h2 := HGB.out q hq; have h3 := HZ1.out; omega
        have HKB6 := Lib.hid (hu9.heap HKB5.out hnk)
        have HBR6 := Lib.hid (hu9.heap HBR5.out hnh)
        have HK6 := Lib.hid (HK5.out.upd hu9 hng)
        clear hu9 hnk hnh hng
        have hS6 : (S ++ ⟨#[32]⟩).size + 4 * xd.hgt ≤ 2000000 := by rw [HS6.out]; have h1 := HSP.out hjp; have h2 := HHJ.out.2; omega
        obtain ⟨⟨p0, p1, p2, p3, p4⟩, pf⟩ := blk5 HBR6.out
        have g1 : IntKind.i64.wrap ((es.length : Int) - 1) = (es.length : Int) - 1 := IntWalk.i64_in _ (by omega)
        by_cases hla : j + 1 = es.length
        · have g2 : ((j : Int) == (es.length : Int) - 1) = true := by simp; omega
          have HLA := Lib.hid hla
          clear hla
          obtain ⟨v9, ht9, hu9a, hv9a⟩ := HWR6.out
          have HKO : Hid (v9.ownBlock ≠ some wr.heap.size) := Lib.hid (fun e => by
            rcases hv9a with e2 | e2
            · rw [e2] at e; have := HXE.out _ e; omega
            · have h1 := e2 _ e; simp at h1; omega)
          obtain ⟨hu9, hv9⟩ := wrote_cat (HUU.out.trans (HNB.out.mono fun _ _ x => x.elim)) HVV.out hu9a hv9a
          clear hu9a hv9a
          obtain ⟨A6, c6, rfl⟩ := own_form ht9.2.1
          generalize hS9 : S ++ ⟨#[32]⟩ = S6 at *
          have HS9 := Lib.hid hS9
          clear hS9
          obtain ⟨⟨d0, d1⟩, ⟨df0, df1⟩, dlt⟩ := wtr_cells ht9.1
          have HX6 := Lib.hid ht9
          have HU9 := Lib.hid hu9
          have HV9 := Lib.hid hv9
          have hw2 : (⟨#[46, 32]⟩ : ByteArray).size = 2 := rfl
          have M7 := Lib.hid (show S6.size + (⟨#[46, 32]⟩ : ByteArray).size ≤ maxLen by rw [hw2]; unfold maxLen; omega)
          have M8 := Lib.hid (show S6.size + (⟨#[46, 32]⟩ : ByteArray).size ≤ 140737488355328 by rw [hw2]; omega)
          have hb6 : base ≤ W6.heap.size := by have h1 := hu9.size; have h2 := HZ1.out; omega
          clear ht9 hu9 hv9 hw2
          go_upto_region 12 with (at_builtin; refine wpList_append_text W6 (by rfl) (.tmp 89) (.const (.string ⟨#[46, 32]⟩)) 133 9 (by rfl) base 5 i0 Try.underlying133 Try.underlying9 hi0 hz0 hz1 hz2 (.slice A6 S6.size c6) S6.size (Lib.strCells S6) (by rfl) HX6.out.2.1 (⟨#[46, 32]⟩ : ByteArray) (by rfl) M7.out M8.out hb6 ?_; intro v1 w4 ho4 hg4 hat4; obtain ⟨A3, c3, rfl⟩ := own_form ho4; have hwr := wrote_step HX6.out ho4 hg4 hat4; obtain ⟨⟨z0, z1⟩, ⟨zf0, zf1⟩, zlt⟩ := wtr_cells (wtr_grown HX6.out hg4); have HWR7 := Lib.hid hwr; have hz9 := (wtr_cells (wtr_put (bv' := .slice A3 (S6.size + (⟨#[46, 32]⟩ : ByteArray).size) c3) (wtr_grown HX6.out hg4))).1.1; clear ho4 hg4 hat4 hwr)
          generalize hW7 : w4.setCell ⟨wb, 0, none⟩ (.slice A3 (S6.size + 2) c3) = W7 at *
          rw [show S6.size + (⟨#[46, 32]⟩ : ByteArray).size = S6.size + 2 from rfl, hW7] at HWR7
          clear hW7
          clear z0 z1 zf0 zf1 zlt hz9 d0 d1 df0 df1
          have HW7 := Lib.hid (wrote_trans HU9.out HV9.out HWR7.out)
          obtain ⟨v9, _, hu9, _⟩ := HWR7.out
          have hxe6 := own_lt HX6.out.2.1
          have hnk : ¬ (wr.heap.size = wb ∨ (Value.slice A6 S6.size c6).ownBlock = some wr.heap.size) := by
            rintro (e | e)
            · omega
            · exact HKO.out e
          have hnh : ¬ (w.heap.size = wb ∨ (Value.slice A6 S6.size c6).ownBlock = some w.heap.size) := by
            rintro (e | e)
            · omega
            · rcases HV9.out with e2 | e2
              · rw [e2] at e; have := HVL.out _ e; omega
              · have h1 := e2 _ e; have h2 := HZ1.out; omega
          have hng : ∀ q, G q → ¬ (q = wb ∨ (Value.slice A6 S6.size c6).ownBlock = some q) := by
            rintro q hq (e | e)
            · exact hG (e ▸ hq)
            · rcases HV9.out with e2 | e2
              · rw [e2] at e; exact HGv.out q e hq
              · have h1 := e2 q e; have h2 := HGB.out q hq; have h3 := HZ1.out; omega
          have HKB7 := Lib.hid (hu9.heap HKB6.out hnk)
          have HBR7 := Lib.hid (hu9.heap HBR6.out hnh)
          have HK7 := Lib.hid (HK6.out.upd hu9 hng)
          clear hu9 hnk hnh hng hxe6 p0 p1 p2 p3
          have hS7 : (S6 ++ ⟨#[46, 32]⟩).size + 4 * xd.hgt ≤ 2000000 := by rw [ByteArray.size_append]; have : (⟨#[46, 32]⟩ : ByteArray).size = 2 := rfl; have h0 := HS6.out; have h1 := HSP.out hjp; have h2 := HHJ.out.2; omega
          obtain ⟨v6, ht6, hu6, hv6⟩ := HW7.out
          have hcall := IHJ.out (.slice A4 es3.length c4) G base wb m (S6 ++ ⟨#[46, 32]⟩) v6 W7 HK7.out (fun q hq => Nat.lt_of_lt_of_le (HGB.out q hq) (by have h1 := hu6.size; have h2 := HZ1.out; omega)) hG (fun q hq hg => by
            rcases hv6 with e | e
            · rw [e] at hq; exact HGv.out q hq hg
            · have h1 := e q hq; have h2 := HGB.out q hg; have h3 := HZ1.out; omega) ht6 (by have h1 := hu6.size; have h2 := HZ1.out; omega) hS7 HHJ.out.2 HWJ.out HMJ.out
          have HPE := Lib.hid (show s ++ (⟨#[40]⟩ ++ preT ((es.map El.d).map txtD) es.length true (j + 1)) = (S6 ++ ⟨#[46, 32]⟩) ++ txtD xd from (by have h := piece_c s ⟨#[40]⟩ ((es.map El.d).map txtD) es.length true j _ HGT.out hjp ⟨rfl, HLA.out⟩; rw [HSJ.out, HS9.out] at h; exact h))
          obtain ⟨⟨k0, k1, k2, k3, k4⟩, kf⟩ := blk5 HKB7.out
          have HC := Lib.hid hcall
          have HU6 := Lib.hid hu6
          have HV6 := Lib.hid hv6
          have HB6 := HBR7
          clear hcall hu6 hv6 ht6 y0 y1 yf0 yf1 x0 x1 x2 x3 x4 r0 r1 r2 r3
          unfold datV at HC
          go_wp2_with fail
          refine HC.out.mono ?_
          rintro e w7 h
          have HH := Lib.hid h
          rcases h with ⟨q1', rfl, q2'⟩ | ⟨q1', rfl, q2'⟩
          · clear q1' q2'
            go_wp2_with fail
            go_roundw
            case measure => simp [intOf]; omega
            case rel =>
              rcases HH.out with ⟨q1, _, q2⟩ | ⟨_, q3, _⟩
              · have hfin := wrote_trans HU6.out HV6.out q2
                rw [← HPE.out] at hfin
                have hsz7 := congrArg ByteArray.size HPE.out
                simp only [ByteArray.size_append] at hsz7 q1
                have h40 : (⟨#[40]⟩ : ByteArray).size = 1 := rfl
                have h32 : (⟨#[32]⟩ : ByteArray).size = 1 := rfl
                have h46 : (⟨#[46, 32]⟩ : ByteArray).size = 2 := rfl
                obtain ⟨v8, _, hu8, _⟩ := q2
                refine ⟨j + 1, by omega, by simp, hfin, hu8.heap HB6.out ?_, by omega, by omega⟩
                rintro (e | e)
                · omega
                · rcases HV6.out with e2 | e2
                  · rw [e2] at e; have := HVL.out _ e; omega
                  · have h1 := e2 _ e; have h2 := HZ1.out; omega
              · cases q3
          · clear q1' q2'
            go_wp2_with fail
            go_ret
            rcases HH.out with ⟨_, q3, _⟩ | ⟨q1, _, q2⟩
            · cases q3
            · refine over_end HU6.out HV6.out q2 q1 ?_
              have hsz7 := congrArg ByteArray.size HPE.out
              simp only [ByteArray.size_append] at hsz7 ⊢
              have h40 : (⟨#[40]⟩ : ByteArray).size = 1 := rfl
              have h32 : (⟨#[32]⟩ : ByteArray).size = 1 := rfl
              have h46 : (⟨#[46, 32]⟩ : ByteArray).size = 2 := rfl
              have := HPL.out
              have := HOV.out
              omega
        · have g2 : ((j : Int) == (es.length : Int) - 1) = false := by simp; omega
          have HLA := Lib.hid hla
          clear hla
          obtain ⟨v6, ht6, hu6, hv6⟩ := HW6.out
          have hcall := IHJ.out (.slice A4 es3.length c4) G base wb m (S ++ ⟨#[32]⟩) v6 W6 HK6.out (fun q hq => Nat.lt_of_lt_of_le (HGB.out q hq) (by have h1 := hu6.size; have h2 := HZ1.out; omega)) hG (fun q hq hg => by
            rcases hv6 with e | e
            · rw [e] at hq; exact HGv.out q hq hg
            · have h1 := e q hq; have h2 := HGB.out q hg; have h3 := HZ1.out; omega) ht6 (by have h1 := hu6.size; have h2 := HZ1.out; omega) hS6 HHJ.out.2 HWJ.out HMJ.out
          have HPE := Lib.hid (show s ++ (⟨#[40]⟩ ++ preT ((es.map El.d).map txtD) es.length true (j + 1)) = (S ++ ⟨#[32]⟩) ++ txtD xd from (by have h := piece_b s ⟨#[40]⟩ ((es.map El.d).map txtD) es.length true j _ HGT.out hjp (fun h => HLA.out h.2); rw [HSJ.out] at h; exact h))
          obtain ⟨⟨k0, k1, k2, k3, k4⟩, kf⟩ := blk5 HKB6.out
          have HC := Lib.hid hcall
          have HU6 := Lib.hid hu6
          have HV6 := Lib.hid hv6
          have HB6 := HBR6
          clear hcall hu6 hv6 ht6 y0 y1 yf0 yf1 x0 x1 x2 x3 x4 r0 r1 r2 r3
          unfold datV at HC
          go_wp2_with fail
          refine HC.out.mono ?_
          rintro e w7 h
          have HH := Lib.hid h
          rcases h with ⟨q1', rfl, q2'⟩ | ⟨q1', rfl, q2'⟩
          · clear q1' q2'
            go_wp2_with fail
            go_roundw
            case measure => simp [intOf]; omega
            case rel =>
              rcases HH.out with ⟨q1, _, q2⟩ | ⟨_, q3, _⟩
              · have hfin := wrote_trans HU6.out HV6.out q2
                rw [← HPE.out] at hfin
                have hsz7 := congrArg ByteArray.size HPE.out
                simp only [ByteArray.size_append] at hsz7 q1
                have h40 : (⟨#[40]⟩ : ByteArray).size = 1 := rfl
                have h32 : (⟨#[32]⟩ : ByteArray).size = 1 := rfl
                have h46 : (⟨#[46, 32]⟩ : ByteArray).size = 2 := rfl
                obtain ⟨v8, _, hu8, _⟩ := q2
                refine ⟨j + 1, by omega, by simp, hfin, hu8.heap HB6.out ?_, by omega, by omega⟩
                rintro (e | e)
                · omega
                · rcases HV6.out with e2 | e2
                  · rw [e2] at e; have := HVL.out _ e; omega
                  · have h1 := e2 _ e; have h2 := HZ1.out; omega
              · cases q3
          · clear q1' q2'
            go_wp2_with fail
            go_ret
            rcases HH.out with ⟨_, q3, _⟩ | ⟨q1, _, q2⟩
            · cases q3
            · refine over_end HU6.out HV6.out q2 q1 ?_
              have hsz7 := congrArg ByteArray.size HPE.out
              simp only [ByteArray.size_append] at hsz7 ⊢
              have h40 : (⟨#[40]⟩ : ByteArray).size = 1 := rfl
              have h32 : (⟨#[32]⟩ : ByteArray).size = 1 := rfl
              have h46 : (⟨#[46, 32]⟩ : ByteArray).size = 2 := rfl
              have := HPL.out
              have := HOV.out
              omega
    · have hje : j = es.length := by omega
      have q1 : ¬ (j : Int) < es.length := by omega
      obtain ⟨v', htx, hu, hv⟩ := hsf
      obtain ⟨A5, c5, rfl⟩ := own_form htx.2.1
      obtain ⟨⟨y0, y1⟩, ⟨yf0, yf1⟩, ylt⟩ := wtr_cells htx.1
      have hTX := Lib.hid htx
      have HUU := Lib.hid hu
      have HVV := Lib.hid hv
      have hS : (s ++ (⟨#[40]⟩ ++ preT ((es.map El.d).map txtD) es.length true j)).size ≤ 2000001 := by
        simp only [ByteArray.size_append]; exact hsz
      have hTT : s ++ txtD (.mk 5 n t (es.map El.d) true) = (s ++ (⟨#[40]⟩ ++ preT ((es.map El.d).map txtD) es.length true j)) ++ ⟨#[41]⟩ := by
        rw [HT.out, hje]; simp only [ByteArray.append_assoc]
      have HTT := Lib.hid hTT
      generalize s ++ (⟨#[40]⟩ ++ preT ((es.map El.d).map txtD) es.length true j) = S at *
      have M5 := Lib.hid (show S.size + 1 ≤ maxLen by unfold maxLen; omega)
      have M6 := Lib.hid (show (S.size + 1) * 1 ≤ 140737488355328 by omega)
      have hbr : base ≤ wr.heap.size := by have h1 := hu.size; have h2 := HZ1.out; omega
      clear htx hu hv hS hTT
      go_wp2_with (at_builtin; refine wpList_append_row (wr.alloc (.cells #[.int .u8 41] 5)) (by rfl) (.tmp 102) (.tmp 103) 133 (by rfl) base 5 i0 _ 1 1 Try.underlying133 hi0 hz0 hz1 hz2 rfl (by decide) (.slice A5 S.size c5) S.size (Lib.strCells S) (by rfl) (hTX.out.2.1.alloc (.cells #[.int .u8 41] 5)) (.slice (some ⟨wr.heap.size, 0, none⟩) 1 1) 1 [.int .u8 41] (by rfl) (.inr ⟨wr.heap.size, 1, rfl, rfl, World.news_of_block (heap_alloc_new wr (.cells #[.int .u8 41] 5))⟩) (byte_one 41) M5.out M6.out (by simp; omega) ?_; intro v1 w4 ho4 hg4 hat4; obtain ⟨A3, c3, rfl⟩ := own_form ho4; have hwr := wrote_byte (c := 41) (.cells #[.int .u8 41] 5) hTX.out ho4 hg4 hat4; obtain ⟨⟨z0, z1⟩, ⟨zf0, zf1⟩, zlt⟩ := wtr_cells (wtr_grown (hTX.out.new ((Upd.refl (fun _ => False) wr).alloc (.cells #[.int .u8 41] 5))) hg4); have hz9 := (wtr_cells (wtr_put (bv' := .slice A3 (S.size + 1) c3) (wtr_grown (hTX.out.new ((Upd.refl (fun _ => False) wr).alloc (.cells #[.int .u8 41] 5))) hg4))).1.1; have HWR := Lib.hid hwr; clear ho4 hg4 hat4 hwr)
      go_ret
      have hfin := wrote_trans HUU.out HVV.out HWR.out
      have hsS : s.size + (txtD (.mk 5 n t (es.map El.d) true)).size = S.size + 1 := by
        have := congrArg ByteArray.size HTT.out
        simp only [ByteArray.size_append] at this
        exact this
      by_cases hc : S.size + 1 ≤ 65536
      · exact .inl ⟨by omega, (by rw [decide_eq_true (by omega)]; rfl), by rw [HTT.out]; exact hfin⟩
      · obtain ⟨v9, _, h2, _⟩ := hfin
        exact .inr ⟨by omega, (by rw [decide_eq_false (by omega)]; rfl), h2.mono fun b _ e => e.imp id .inl⟩
end Go.Proofs.Ytnnjhafjcdjobaa

namespace Go.Proofs.Ytnnjhafjcdjobaa
open Go.RowKit
set_option linter.unusedVariables false
set_option linter.unusedSimpArgs false

set_option maxHeartbeats 8000000 in
set_option maxRecDepth 20000 in
theorem list_loop_d (n : Int) (t : ByteArray) (es : List El) (g0 o0 : Nat) (c : Nat) (ih : ∀ e ∈ es, WRITES 80 e.d) (G : Nat → Prop) (base wb : Nat) (m : Int) (s : ByteArray) (v : Value) (w : World) (hs : Seen w G (.slice (some ⟨g0, o0, none⟩) es.length c) es) (hks : ∀ e ∈ es, Sees w G e.kv e.d.kids) (hn : es.length ≤ 2000000)
    (hGb : ∀ b, G b → b < w.heap.size) (hG : ¬ G wb) (hGv : ∀ b, v.ownBlock = some b → ¬ G b) (hx : Txt w base wb m s v) (hb : base ≤ w.heap.size) (hss : s.size ≤ 2000000) (hhg : ∀ e ∈ es, s.size + 4 + 4 * e.d.hgt ≤ 2000000 ∧ e.d.hgt ≤ 70000) (hwee : weeL (es.map El.d)) (hmay : mayL (es.map El.d) = true) (hq : es.length = 2) (hk0 : ∀ h : 0 < es.length, ((es[0].d.k : Int) == 2) = false)
    (hT : txtD (.mk 5 n t (es.map El.d) false) = ⟨#[40]⟩ ++ preT ((es.map El.d).map txtD) es.length false es.length ++ ⟨#[41]⟩) :
    Calls Try.prog 110 #[.pointer (some ⟨wb, 0, none⟩), .agg #[.int .u8 5, .int .i64 n, .string t, .slice (some ⟨g0, o0, none⟩) es.length c, .bool false]] w (PutPost (.mk 5 n t (es.map El.d) false) w base wb m s v) := by
  obtain ⟨i0, hi0, hz0, hz1, hz2⟩ := info_parts info5
  obtain ⟨⟨c0, c1⟩, ⟨cf0, cf1⟩, hlt⟩ := wtr_cells hx.1
  obtain ⟨A2, c2, rfl⟩ := own_form hx.2.1
  have m3 : s.size + 1 ≤ maxLen := by unfold maxLen; omega
  have m4 : (s.size + 1) * 1 ≤ 140737488355328 := by omega
  have hn1 : New w (w.alloc (.cells #[.int .u8 5, .int .i64 n, .string t, .slice (some ⟨g0, o0, none⟩) es.length c, .bool false] 58)) := (Upd.refl (fun _ => False) w).alloc _
  suffices hsuf : Calls Try.prog 110 #[.pointer (some ⟨wb, 0, none⟩), .agg #[.int .u8 5, .int .i64 n, .string t, .slice (some ⟨g0, o0, none⟩) es.length c, .bool false]] w (PutPost (.mk 5 n t (es.map El.d) false) (w.alloc (.cells #[.int .u8 5, .int .i64 n, .string t, .slice (some ⟨g0, o0, none⟩) es.length c, .bool false] 58)) base wb m s (.slice A2 s.size c2)) from hsuf.mono fun e w' h => putpost_pre hn1 h
  have HX := Lib.hid (hx.new hn1)
  have M3 := Lib.hid m3
  have M4 := Lib.hid m4
  have hdl : 0 < es.length := by omega
  have hdl1 : (0 : Int) < es.length := by omega
  have hq1 : ((es.length : Int) == 2) = true := by simp; omega
  have HQ := Lib.hid hq
  obtain ⟨g', o', cc0, hA0, hGg0, hltg0, a0, a1, a2, a3, a4⟩ := (hs.new hn1).at 0 hdl
  simp only [Value.slice.injEq, Option.some.injEq, Addr.mk.injEq] at hA0
  obtain ⟨⟨rfl, rfl, -⟩, -, -⟩ := hA0
  simp only [Nat.zero_mul, Nat.add_zero] at a0 a1 a2 a3 a4
  have HSAVE := Lib.hid (hk0 hdl)
  generalize hF : es[0] = F at *
  have hk1 := HSAVE.out
  clear hF HSAVE hk0
  generalize F.d.k = fk at *
  clear hq
  have HGv := Lib.hid hGv
  have hvl : ∀ q, (Value.slice A2 s.size c2).ownBlock = some q → q < w.heap.size := fun q hq => (own_lt hx.2.1 q hq).2
  have HVL := Lib.hid hvl
  have HS := Lib.hid (hs.new hn1)
  have HKS := Lib.hid (fun e he => (hks e he).new hn1)
  have HN1 := Lib.hid hn1
  have hbx := heap_alloc_new w (.cells #[.int .u8 5, .int .i64 n, .string t, .slice (some ⟨g0, o0, none⟩) es.length c, .bool false] 58)
  have HBX := Lib.hid hbx
  have HT := Lib.hid hT
  have HW := Lib.hid (weeL_mem hwee)
  have HM := Lib.hid (mayL_mem hmay)
  have HIH := Lib.hid ih
  have HHG := Lib.hid hhg
  have HGB := Lib.hid hGb
  have HZ1 : Hid ((w.alloc (.cells #[.int .u8 5, .int .i64 n, .string t, .slice (some ⟨g0, o0, none⟩) es.length c, .bool false] 58)).heap.size = w.heap.size + 1) := Lib.hid (by simp)
  clear hGv hvl hs hks hn1 hx hbx m3 m4 hT hwee hmay ih hGb hhg
  go_enter Try.func110, Try.ntmps110
  go_upto_region 5 with (at_builtin; refine wpList_append_row ((w.alloc (.cells #[.int .u8 5, .int .i64 n, .string t, .slice (some ⟨g0, o0, none⟩) es.length c, .bool false] 58)).alloc (.cells #[.int .u8 40] 5)) (by rfl) (.tmp 51) (.tmp 52) 133 (by rfl) base 5 i0 _ 1 1 Try.underlying133 hi0 hz0 hz1 hz2 rfl (by decide) (.slice A2 s.size c2) s.size (Lib.strCells s) (by rfl) (HX.out.2.1.alloc (.cells #[.int .u8 40] 5)) (.slice (some ⟨w.heap.size + 1, 0, none⟩) 1 1) 1 [.int .u8 40] (by rfl) (.inr ⟨w.heap.size + 1, 1, rfl, rfl, World.news_of_block (alloc2 w (.cells #[.int .u8 5, .int .i64 n, .string t, .slice (some ⟨g0, o0, none⟩) es.length c, .bool false] 58) (.cells #[.int .u8 40] 5))⟩) (byte_one 40) M3.out M4.out (by simp; omega) ?_; intro v1 w4 ho4 hg4 hat4; obtain ⟨A3, c3, rfl⟩ := own_form ho4; have hwr := wrote_byte (c := 40) (.cells #[.int .u8 40] 5) HX.out ho4 hg4 hat4; obtain ⟨⟨z0, z1⟩, ⟨zf0, zf1⟩, zlt⟩ := wtr_cells (wtr_grown (HX.out.new ((Upd.refl (fun _ => False) (w.alloc (.cells #[.int .u8 5, .int .i64 n, .string t, .slice (some ⟨g0, o0, none⟩) es.length c, .bool false] 58))).alloc (.cells #[.int .u8 40] 5))) hg4); have hz9 := (wtr_cells (wtr_put (bv' := .slice A3 (s.size + 1) c3) (wtr_grown (HX.out.new ((Upd.refl (fun _ => False) (w.alloc (.cells #[.int .u8 5, .int .i64 n, .string t, .slice (some ⟨g0, o0, none⟩) es.length c, .bool false] 58))).alloc (.cells #[.int .u8 40] 5))) hg4))).1.1; have HWR := Lib.hid hwr; clear ho4 hg4 hat4 hwr)
  generalize w4.setCell ⟨wb, 0, none⟩ (.slice A3 (s.size + 1) c3) = W5 at *
  have hfG : ∀ q, G q → ¬ (q = wb ∨ (Value.slice A2 s.size c2).ownBlock = some q) := fun q hq e => by
    rcases e with e | e
    · exact hG (e ▸ hq)
    · exact HGv.out q e hq
  have hHne : ¬ (w.heap.size = wb ∨ (Value.slice A2 s.size c2).ownBlock = some w.heap.size) := fun e => by
    rcases e with e | e
    · omega
    · have := HVL.out _ e; omega
  have hbx5 : W5.heap[w.heap.size]? = some (.cells #[.int .u8 5, .int .i64 n, .string t, .slice (some ⟨g0, o0, none⟩) es.length c, .bool false] 58 (0, 0)) := by
    obtain ⟨v', _, hu5, _⟩ := HWR.out
    exact hu5.heap HBX.out hHne
  obtain ⟨⟨e0, e1, e2, e3, e4⟩, ef⟩ := blk5 hbx5
  have HBX5 := Lib.hid hbx5
  have HFG := Lib.hid hfG
  clear hbx5 z0 z1 zf0 zf1 zlt hz9 c0 c1 cf0 cf1 hfG hHne
  go_wp2_with fail
  have hszI : (es.length : Int) ≤ 2000000 := by omega
  go_loopw [59] (fun i wr => ∃ j : Nat, j ≤ es.length ∧ i = .int .i64 j ∧ Sofar (w.alloc (.cells #[.int .u8 5, .int .i64 n, .string t, .slice (some ⟨g0, o0, none⟩) es.length c, .bool false] 58)) base wb m (s ++ (⟨#[40]⟩ ++ preT ((es.map El.d).map txtD) es.length false j)) (.slice A2 s.size c2) wr ∧ wr.heap[w.heap.size]? = some (.cells #[.int .u8 5, .int .i64 n, .string t, .slice (some ⟨g0, o0, none⟩) es.length c, .bool false] 58 (0, 0)) ∧ s.size + (1 + (preT ((es.map El.d).map txtD) es.length false j).size) ≤ 2000001 ∧ (0 < j → s.size + (1 + (preT ((es.map El.d).map txtD) es.length false j).size) ≤ 65536)) (fun i _ => es.length - (intOf i).toNat)
  case atStart =>
    have e1 : (⟨#[40]⟩ : ByteArray) ++ preT ((es.map El.d).map txtD) es.length false 0 = ⟨#[40]⟩ := rfl
    have e2 : (preT ((es.map El.d).map txtD) es.length false 0).size = 0 := rfl
    exact ⟨0, Nat.zero_le _, rfl, (by rw [e1]; exact HWR.out), HBX5.out, (by omega), (by omega)⟩
  case round =>
    obtain ⟨j, hj, rfl, hsf, hbxr, hsz, hszp⟩ := hrel
    have HSZP := Lib.hid hszp
    clear hszp
    by_cases hjl : j < es.length
    · obtain ⟨v', htx, hu, hv⟩ := hsf
      obtain ⟨A5, c5, rfl⟩ := own_form htx.2.1
      obtain ⟨⟨y0, y1⟩, ⟨yf0, yf1⟩, ylt⟩ := wtr_cells htx.1
      obtain ⟨g, o, cc, hA, hGg, hltg, x0, x1, x2, x3, x4⟩ := (HS.out.upd hu HFG.out).at j hjl
      simp only [Value.slice.injEq, Option.some.injEq, Addr.mk.injEq] at hA
      obtain ⟨⟨rfl, rfl, -⟩, -, -⟩ := hA
      have hmem := List.getElem_mem hjl
      have hkk := (HKS.out _ hmem).upd hu HFG.out
      obtain ⟨es3, hes3, hseen3, _⟩ := hkk.inv
      obtain ⟨A4, c4, hkv⟩ := hseen3.form
      have q0 : (0 : Int) ≤ j := by omega
      have q1 : (j : Int) < es.length := by omega
      have q2 : IntKind.i64.wrap ((j : Int) + 1) = (j : Int) + 1 := IntWalk.i64_in _ (by omega)
      obtain ⟨⟨r0, r1, r2, r3, r4⟩, rf⟩ := blk5 hbxr
      have hblt : w.heap.size < wr.heap.size := (Array.getElem?_eq_some_iff.1 hbxr).1
      have hbr : base ≤ wr.heap.size := by omega
      have hSz : (s ++ (⟨#[40]⟩ ++ preT ((es.map El.d).map txtD) es.length false j)).size ≤ 2000001 := by simp only [ByteArray.size_append]; exact hsz
      have hxe : ∀ q, (Value.slice A5 (s ++ (⟨#[40]⟩ ++ preT ((es.map El.d).map txtD) es.length false j)).size c5).ownBlock = some q → q < wr.heap.size := fun q hq => (own_lt htx.2.1 q hq).2
      have HXE := Lib.hid hxe
      have HS0 : Hid (j = 0 → (s ++ (⟨#[40]⟩ ++ preT ((es.map El.d).map txtD) es.length false j)).size = s.size + 1) := Lib.hid (fun h => by subst h; simp only [ByteArray.size_append]; rfl)
      have HSP : Hid (0 < j → (s ++ (⟨#[40]⟩ ++ preT ((es.map El.d).map txtD) es.length false j)).size ≤ 65536) := Lib.hid (fun h => by simp only [ByteArray.size_append]; exact HSZP.out h)
      have HHJ := Lib.hid (HHG.out _ hmem)
      have HKK := Lib.hid hkk
      have HTX := Lib.hid htx
      have HUU := Lib.hid hu
      have HVV := Lib.hid hv
      have HBR := Lib.hid hbxr
      have IHJ := Lib.hid (HIH.out _ hmem)
      have HWJ := Lib.hid (HW.out _ (List.mem_map.2 ⟨_, hmem, rfl⟩))
      have HMJ := Lib.hid (HM.out _ (List.mem_map.2 ⟨_, hmem, rfl⟩))
      have HGT := Lib.hid (getD_txt es j hjl)
      have hov : (txtD (.mk 5 n t (es.map El.d) false)).size = 1 + (preT ((es.map El.d).map txtD) es.length false es.length).size + 1 := by rw [HT.out, ByteArray.size_append, ByteArray.size_append]; rfl
      have HOV := Lib.hid hov
      have HPL := Lib.hid (preT_le ((es.map El.d).map txtD) es.length false (j + 1) es.length hjl)
      generalize hV : es[j] = X at *
      obtain ⟨xd, xkv, xbs⟩ := X
      simp only at *
      subst hkv
      generalize hSJ : s ++ (⟨#[40]⟩ ++ preT ((es.map El.d).map txtD) es.length false j) = S at *
      have HSJ := Lib.hid hSJ
      clear hkk htx hu hv hmem hes3 hseen3 hov hxe hV hbxr hSJ hsz
      have hnb : New wr (wr.alloc (.cells #[.int .u8 xd.k, .int .i64 xd.n, .string xd.t, .slice A4 es3.length c4, .bool xd.dot] 58)) := (Upd.refl (fun _ => False) wr).alloc _
      have HKB5 := Lib.hid (heap_alloc_new wr (.cells #[.int .u8 xd.k, .int .i64 xd.n, .string xd.t, .slice A4 es3.length c4, .bool xd.dot] 58))
      have HNB := Lib.hid hnb
      have HX5 := Lib.hid (HTX.out.new hnb)
      have HBR5 := Lib.hid (hnb.heap HBR.out (fun x => x))
      have HK5 := Lib.hid (HKK.out.new hnb)
      have HW5 := Lib.hid (show Wrote (w.alloc (.cells #[.int .u8 5, .int .i64 n, .string t, .slice (some ⟨g0, o0, none⟩) es.length c, .bool false] 58)) base wb m S (.slice A2 s.size c2) (wr.alloc (.cells #[.int .u8 xd.k, .int .i64 xd.n, .string xd.t, .slice A4 es3.length c4, .bool xd.dot] 58)) from ⟨_, HX5.out, HUU.out.trans (hnb.mono fun _ _ x => x.elim), HVV.out⟩)
      clear hnb
      by_cases hj0 : j = 0
      · have HJ0 := Lib.hid hj0
        have hjd : decide ((0 : Int) < (j : Int)) = false := decide_eq_false (by omega)
        have hjm : ¬ ((0 : Int) < (j : Int)) := by omega
        clear hj0
        go_upto_region 10 with (fail)
        clear hjd hjm
        have hS5 : S.size + 4 * xd.hgt ≤ 2000000 := by have h1 := HS0.out HJ0.out; have h2 := HHJ.out.1; omega
        generalize wr.alloc (.cells #[.int .u8 xd.k, .int .i64 xd.n, .string xd.t, .slice A4 es3.length c4, .bool xd.dot] 58) = W6 at *
        obtain ⟨⟨p0, p1, p2, p3, p4⟩, pf⟩ := blk5 HBR5.out
        obtain ⟨v6, ht6, hu6, hv6⟩ := HW5.out
        have hcall := IHJ.out (.slice A4 es3.length c4) G base wb m S v6 W6 HK5.out (fun q hq => Nat.lt_of_lt_of_le (HGB.out q hq) (by have h1 := hu6.size; have h2 := HZ1.out; omega)) hG (fun q hq hg => by
          rcases hv6 with e | e
          · rw [e] at hq; exact HGv.out q hq hg
          · have h1 := e q hq; have h2 := HGB.out q hg; have h3 := HZ1.out; omega) ht6 (by have h1 := hu6.size; have h2 := HZ1.out; omega) hS5 HHJ.out.2 HWJ.out HMJ.out
        have HPE := Lib.hid (show s ++ (⟨#[40]⟩ ++ preT ((es.map El.d).map txtD) es.length false (j + 1)) = S ++ txtD xd from (by have h := piece_a s ⟨#[40]⟩ ((es.map El.d).map txtD) es.length false j _ HGT.out HJ0.out (fun h => by have := h.1; cases this); rw [HSJ.out] at h; exact h))
        obtain ⟨⟨k0, k1, k2, k3, k4⟩, kf⟩ := blk5 HKB5.out
        have HC := Lib.hid hcall
        have HU6 := Lib.hid hu6
        have HV6 := Lib.hid hv6
        have HB6 := HBR5
        clear hcall hu6 hv6 ht6 y0 y1 yf0 yf1 x0 x1 x2 x3 x4 r0 r1 r2 r3
        unfold datV at HC
        go_wp2_with fail
        refine HC.out.mono ?_
        rintro e w7 h
        have HH := Lib.hid h
        rcases h with ⟨q1', rfl, q2'⟩ | ⟨q1', rfl, q2'⟩
        · clear q1' q2'
          go_wp2_with fail
          go_roundw
          case measure => simp [intOf]; omega
          case rel =>
            rcases HH.out with ⟨q1, _, q2⟩ | ⟨_, q3, _⟩
            · have hfin := wrote_trans HU6.out HV6.out q2
              rw [← HPE.out] at hfin
              have hsz7 := congrArg ByteArray.size HPE.out
              simp only [ByteArray.size_append] at hsz7 q1
              have h40 : (⟨#[40]⟩ : ByteArray).size = 1 := rfl
              have h32 : (⟨#[32]⟩ : ByteArray).size = 1 := rfl
              have h46 : (⟨#[46, 32]⟩ : ByteArray).size = 2 := rfl
              obtain ⟨v8, _, hu8, _⟩ := q2
              refine ⟨j + 1, by omega, by simp, hfin, hu8.heap HB6.out ?_, by omega, by omega⟩
              rintro (e | e)
              · omega
              · rcases HV6.out with e2 | e2
                · rw [e2] at e; have := HVL.out _ e; omega
                · have h1 := e2 _ e; have h2 := HZ1.out; omega
            · cases q3
        · clear q1' q2'
          go_wp2_with fail
          go_ret
          rcases HH.out with ⟨_, q3, _⟩ | ⟨q1, _, q2⟩
          · cases q3
          · refine over_end HU6.out HV6.out q2 q1 ?_
            have hsz7 := congrArg ByteArray.size HPE.out
            simp only [ByteArray.size_append] at hsz7 ⊢
            have h40 : (⟨#[40]⟩ : ByteArray).size = 1 := rfl
            have h32 : (⟨#[32]⟩ : ByteArray).size = 1 := rfl
            have h46 : (⟨#[46, 32]⟩ : ByteArray).size = 2 := rfl
            have := HPL.out
            have := HOV.out
            omega
      · have hjp : 0 < j := by omega
        have hjq : (0 : Int) < (j : Int) := by omega
        have hjd : decide ((0 : Int) < (j : Int)) = true := decide_eq_true hjq
        have M5 := Lib.hid (show S.size + 1 ≤ maxLen by unfold maxLen; omega)
        have M6 := Lib.hid (show (S.size + 1) * 1 ≤ 140737488355328 by omega)
        clear hj0
        go_upto_region 10 with (at_builtin; refine wpList_append_row ((wr.alloc (.cells #[.int .u8 xd.k, .int .i64 xd.n, .string xd.t, .slice A4 es3.length c4, .bool xd.dot] 58)).alloc (.cells #[.int .u8 32] 5)) (by rfl) (.tmp 70) (.tmp 71) 133 (by rfl) base 5 i0 _ 1 1 Try.underlying133 hi0 hz0 hz1 hz2 rfl (by decide) (.slice A5 S.size c5) S.size (Lib.strCells S) (by rfl) (HX5.out.2.1.alloc (.cells #[.int .u8 32] 5)) (.slice (some ⟨wr.heap.size + 1, 0, none⟩) 1 1) 1 [.int .u8 32] (by rfl) (.inr ⟨wr.heap.size + 1, 1, rfl, rfl, World.news_of_block (alloc2 wr (.cells #[.int .u8 xd.k, .int .i64 xd.n, .string xd.t, .slice A4 es3.length c4, .bool xd.dot] 58) (.cells #[.int .u8 32] 5))⟩) (byte_one 32) M5.out M6.out (by simp; omega) ?_; intro v1 w4 ho4 hg4 hat4; obtain ⟨A3, c3, rfl⟩ := own_form ho4; have hwr := wrote_byte (c := 32) (.cells #[.int .u8 32] 5) HX5.out ho4 hg4 hat4; obtain ⟨⟨z0, z1⟩, ⟨zf0, zf1⟩, zlt⟩ := wtr_cells (wtr_grown (HX5.out.new ((Upd.refl (fun _ => False) (wr.alloc (.cells #[.int .u8 xd.k, .int .i64 xd.n, .string xd.t, .slice A4 es3.length c4, .bool xd.dot] 58))).alloc (.cells #[.int .u8 32] 5))) hg4); have hz9 := (wtr_cells (wtr_put (bv' := .slice A3 (S.size + 1) c3) (wtr_grown (HX5.out.new ((Upd.refl (fun _ => False) (wr.alloc (.cells #[.int .u8 xd.k, .int .i64 xd.n, .string xd.t, .slice A4 es3.length c4, .bool xd.dot] 58))).alloc (.cells #[.int .u8 32] 5))) hg4))).1.1; have HWR6 := Lib.hid hwr; clear ho4 hg4 hat4 hwr)
        have HS6 : Hid ((S ++ ⟨#[32]⟩).size = S.size + 1) := Lib.hid (by rw [ByteArray.size_append]; rfl)
        generalize w4.setCell ⟨wb, 0, none⟩ (.slice A3 (S.size + 1) c3) = W6 at *
        clear z0 z1 zf0 zf1 zlt hz9
        have HW6 := Lib.hid (wrote_trans (HUU.out.trans (HNB.out.mono fun _ _ x => x.elim)) HVV.out HWR6.out)
        obtain ⟨v9, _, hu9, _⟩ := HWR6.out
        have hnk : ¬ (wr.heap.size = wb ∨ (Value.slice A5 S.size c5).ownBlock = some wr.heap.size) := by
          rintro (e | e)
          · omega
          · have := HXE.out _ e; omega
        have hnh : ¬ (w.heap.size = wb ∨ (Value.slice A5 S.size c5).ownBlock = some w.heap.size) := by
          rintro (e | e)
          · omega
          · rcases HVV.out with e2 | e2
            · rw [e2] at e; have := HVL.out _ e; omega
            · have h1 := e2 _ e; have h2 := HZ1.out; omega
        have hng : ∀ q, G q → ¬ (q = wb ∨ (Value.slice A5 S.size c5).ownBlock = some q) := by
          rintro q hq (e | e)
          · exact hG (e ▸ hq)
          · rcases HVV.out with e2 | e2
            · rw [e2] at e; exact HGv.out q e hq
            · have h1 := e2 q e; have h2 := HGB.out q hq; have h3 := HZ1.out; omega
        have HKB6 := Lib.hid (hu9.heap HKB5.out hnk)
        have HBR6 := Lib.hid (hu9.heap HBR5.out hnh)
        have HK6 := Lib.hid (HK5.out.upd hu9 hng)
        clear hu9 hnk hnh hng
        have hS6 : (S ++ ⟨#[32]⟩).size + 4 * xd.hgt ≤ 2000000 := by rw [HS6.out]; have h1 := HSP.out hjp; have h2 := HHJ.out.2; omega
        obtain ⟨⟨p0, p1, p2, p3, p4⟩, pf⟩ := blk5 HBR6.out
        obtain ⟨v6, ht6, hu6, hv6⟩ := HW6.out
        have hcall := IHJ.out (.slice A4 es3.length c4) G base wb m (S ++ ⟨#[32]⟩) v6 W6 HK6.out (fun q hq => Nat.lt_of_lt_of_le (HGB.out q hq) (by have h1 := hu6.size; have h2 := HZ1.out; omega)) hG (fun q hq hg => by
          rcases hv6 with e | e
          · rw [e] at hq; exact HGv.out q hq hg
          · have h1 := e q hq; have h2 := HGB.out q hg; have h3 := HZ1.out; omega) ht6 (by have h1 := hu6.size; have h2 := HZ1.out; omega) hS6 HHJ.out.2 HWJ.out HMJ.out
        have HPE := Lib.hid (show s ++ (⟨#[40]⟩ ++ preT ((es.map El.d).map txtD) es.length false (j + 1)) = (S ++ ⟨#[32]⟩) ++ txtD xd from (by have h := piece_b s ⟨#[40]⟩ ((es.map El.d).map txtD) es.length false j _ HGT.out hjp (fun h => by have := h.1; cases this); rw [HSJ.out] at h; exact h))
        obtain ⟨⟨k0, k1, k2, k3, k4⟩, kf⟩ := blk5 HKB6.out
        have HC := Lib.hid hcall
        have HU6 := Lib.hid hu6
        have HV6 := Lib.hid hv6
        have HB6 := HBR6
        clear hcall hu6 hv6 ht6 y0 y1 yf0 yf1 x0 x1 x2 x3 x4 r0 r1 r2 r3
        unfold datV at HC
        go_wp2_with fail
        refine HC.out.mono ?_
        rintro e w7 h
        have HH := Lib.hid h
        rcases h with ⟨q1', rfl, q2'⟩ | ⟨q1', rfl, q2'⟩
        · clear q1' q2'
          go_wp2_with fail
          go_roundw
          case measure => simp [intOf]; omega
          case rel =>
            rcases HH.out with ⟨q1, _, q2⟩ | ⟨_, q3, _⟩
            · have hfin := wrote_trans HU6.out HV6.out q2
              rw [← HPE.out] at hfin
              have hsz7 := congrArg ByteArray.size HPE.out
              simp only [ByteArray.size_append] at hsz7 q1
              have h40 : (⟨#[40]⟩ : ByteArray).size = 1 := rfl
              have h32 : (⟨#[32]⟩ : ByteArray).size = 1 := rfl
              have h46 : (⟨#[46, 32]⟩ : ByteArray).size = 2 := rfl
              obtain ⟨v8, _, hu8, _⟩ := q2
              refine ⟨j + 1, by omega, by simp, hfin, hu8.heap HB6.out ?_, by omega, by omega⟩
              rintro (e | e)
              · omega
              · rcases HV6.out with e2 | e2
                · rw [e2] at e; have := HVL.out _ e; omega
                · have h1 := e2 _ e; have h2 := HZ1.out; omega
            · cases q3
        · clear q1' q2'
          go_wp2_with fail
          go_ret
          rcases HH.out with ⟨_, q3, _⟩ | ⟨q1, _, q2⟩
          · cases q3
          · refine over_end HU6.out HV6.out q2 q1 ?_
            have hsz7 := congrArg ByteArray.size HPE.out
            simp only [ByteArray.size_append] at hsz7 ⊢
            have h40 : (⟨#[40]⟩ : ByteArray).size = 1 := rfl
            have h32 : (⟨#[32]⟩ : ByteArray).size = 1 := rfl
            have h46 : (⟨#[46, 32]⟩ : ByteArray).size = 2 := rfl
            have := HPL.out
            have := HOV.out
            omega
    · have hje : j = es.length := by omega
      have q1 : ¬ (j : Int) < es.length := by omega
      obtain ⟨v', htx, hu, hv⟩ := hsf
      obtain ⟨A5, c5, rfl⟩ := own_form htx.2.1
      obtain ⟨⟨y0, y1⟩, ⟨yf0, yf1⟩, ylt⟩ := wtr_cells htx.1
      have hTX := Lib.hid htx
      have HUU := Lib.hid hu
      have HVV := Lib.hid hv
      have hS : (s ++ (⟨#[40]⟩ ++ preT ((es.map El.d).map txtD) es.length false j)).size ≤ 2000001 := by
        simp only [ByteArray.size_append]; exact hsz
      have hTT : s ++ txtD (.mk 5 n t (es.map El.d) false) = (s ++ (⟨#[40]⟩ ++ preT ((es.map El.d).map txtD) es.length false j)) ++ ⟨#[41]⟩ := by
        rw [HT.out, hje]; simp only [ByteArray.append_assoc]
      have HTT := Lib.hid hTT
      generalize s ++ (⟨#[40]⟩ ++ preT ((es.map El.d).map txtD) es.length false j) = S at *
      have M5 := Lib.hid (show S.size + 1 ≤ maxLen by unfold maxLen; omega)
      have M6 := Lib.hid (show (S.size + 1) * 1 ≤ 140737488355328 by omega)
      have hbr : base ≤ wr.heap.size := by have h1 := hu.size; have h2 := HZ1.out; omega
      clear htx hu hv hS hTT
      go_wp2_with (at_builtin; refine wpList_append_row (wr.alloc (.cells #[.int .u8 41] 5)) (by rfl) (.tmp 102) (.tmp 103) 133 (by rfl) base 5 i0 _ 1 1 Try.underlying133 hi0 hz0 hz1 hz2 rfl (by decide) (.slice A5 S.size c5) S.size (Lib.strCells S) (by rfl) (hTX.out.2.1.alloc (.cells #[.int .u8 41] 5)) (.slice (some ⟨wr.heap.size, 0, none⟩) 1 1) 1 [.int .u8 41] (by rfl) (.inr ⟨wr.heap.size, 1, rfl, rfl, World.news_of_block (heap_alloc_new wr (.cells #[.int .u8 41] 5))⟩) (byte_one 41) M5.out M6.out (by simp; omega) ?_; intro v1 w4 ho4 hg4 hat4; obtain ⟨A3, c3, rfl⟩ := own_form ho4; have hwr := wrote_byte (c := 41) (.cells #[.int .u8 41] 5) hTX.out ho4 hg4 hat4; obtain ⟨⟨z0, z1⟩, ⟨zf0, zf1⟩, zlt⟩ := wtr_cells (wtr_grown (hTX.out.new ((Upd.refl (fun _ => False) wr).alloc (.cells #[.int .u8 41] 5))) hg4); have hz9 := (wtr_cells (wtr_put (bv' := .slice A3 (S.size + 1) c3) (wtr_grown (hTX.out.new ((Upd.refl (fun _ => False) wr).alloc (.cells #[.int .u8 41] 5))) hg4))).1.1; have HWR := Lib.hid hwr; clear ho4 hg4 hat4 hwr)
      go_ret
      have hfin := wrote_trans HUU.out HVV.out HWR.out
      have hsS : s.size + (txtD (.mk 5 n t (es.map El.d) false)).size = S.size + 1 := by
        have := congrArg ByteArray.size HTT.out
        simp only [ByteArray.size_append] at this
        exact this
      by_cases hc : S.size + 1 ≤ 65536
      · exact .inl ⟨by omega, (by rw [decide_eq_true (by omega)]; rfl), by rw [HTT.out]; exact hfin⟩
      · obtain ⟨v9, _, h2, _⟩ := hfin
        exact .inr ⟨by omega, (by rw [decide_eq_false (by omega)]; rfl), h2.mono fun b _ e => e.imp id .inl⟩
end Go.Proofs.Ytnnjhafjcdjobaa

namespace Go.Proofs.Ytnnjhafjcdjobaa
open Go.RowKit
set_option linter.unusedVariables false
set_option linter.unusedSimpArgs false

set_option maxHeartbeats 8000000 in
set_option maxRecDepth 20000 in
theorem list_loop_e (n : Int) (t : ByteArray) (es : List El) (g0 o0 : Nat) (c : Nat) (ih : ∀ e ∈ es, WRITES 80 e.d) (G : Nat → Prop) (base wb : Nat) (m : Int) (s : ByteArray) (v : Value) (w : World) (hs : Seen w G (.slice (some ⟨g0, o0, none⟩) es.length c) es) (hks : ∀ e ∈ es, Sees w G e.kv e.d.kids) (hn : es.length ≤ 2000000)
    (hGb : ∀ b, G b → b < w.heap.size) (hG : ¬ G wb) (hGv : ∀ b, v.ownBlock = some b → ¬ G b) (hx : Txt w base wb m s v) (hb : base ≤ w.heap.size) (hss : s.size ≤ 2000000) (hhg : ∀ e ∈ es, s.size + 4 + 4 * e.d.hgt ≤ 2000000 ∧ e.d.hgt ≤ 70000) (hwee : weeL (es.map El.d)) (hmay : mayL (es.map El.d) = true) (hq : es.length = 2) (hk0 : ∀ h : 0 < es.length, ((es[0].d.k : Int) == 2) = true ∧ (es[0].d.t.toList == [113, 117, 111, 116, 101]) = false)
    (hT : txtD (.mk 5 n t (es.map El.d) false) = ⟨#[40]⟩ ++ preT ((es.map El.d).map txtD) es.length false es.length ++ ⟨#[41]⟩) :
    Calls Try.prog 110 #[.pointer (some ⟨wb, 0, none⟩), .agg #[.int .u8 5, .int .i64 n, .string t, .slice (some ⟨g0, o0, none⟩) es.length c, .bool false]] w (PutPost (.mk 5 n t (es.map El.d) false) w base wb m s v) := by
  obtain ⟨i0, hi0, hz0, hz1, hz2⟩ := info_parts info5
  obtain ⟨⟨c0, c1⟩, ⟨cf0, cf1⟩, hlt⟩ := wtr_cells hx.1
  obtain ⟨A2, c2, rfl⟩ := own_form hx.2.1
  have m3 : s.size + 1 ≤ maxLen := by unfold maxLen; omega
  have m4 : (s.size + 1) * 1 ≤ 140737488355328 := by omega
  have hn1 : New w (w.alloc (.cells #[.int .u8 5, .int .i64 n, .string t, .slice (some ⟨g0, o0, none⟩) es.length c, .bool false] 58)) := (Upd.refl (fun _ => False) w).alloc _
  suffices hsuf : Calls Try.prog 110 #[.pointer (some ⟨wb, 0, none⟩), .agg #[.int .u8 5, .int .i64 n, .string t, .slice (some ⟨g0, o0, none⟩) es.length c, .bool false]] w (PutPost (.mk 5 n t (es.map El.d) false) (w.alloc (.cells #[.int .u8 5, .int .i64 n, .string t, .slice (some ⟨g0, o0, none⟩) es.length c, .bool false] 58)) base wb m s (.slice A2 s.size c2)) from hsuf.mono fun e w' h => putpost_pre hn1 h
  have HX := Lib.hid (hx.new hn1)
  have M3 := Lib.hid m3
  have M4 := Lib.hid m4
  have hdl : 0 < es.length := by omega
  have hdl1 : (0 : Int) < es.length := by omega
  have hq1 : ((es.length : Int) == 2) = true := by simp; omega
  have HQ := Lib.hid hq
  obtain ⟨g', o', cc0, hA0, hGg0, hltg0, a0, a1, a2, a3, a4⟩ := (hs.new hn1).at 0 hdl
  simp only [Value.slice.injEq, Option.some.injEq, Addr.mk.injEq] at hA0
  obtain ⟨⟨rfl, rfl, -⟩, -, -⟩ := hA0
  simp only [Nat.zero_mul, Nat.add_zero] at a0 a1 a2 a3 a4
  have HSAVE := Lib.hid (hk0 hdl)
  generalize hF : es[0] = F at *
  have hk1 := HSAVE.out
  clear hF HSAVE hk0
  generalize F.d.k = fk at *
  generalize F.d.t = ft at *
  obtain ⟨hk2, hk3⟩ := hk1
  clear hq
  have HGv := Lib.hid hGv
  have hvl : ∀ q, (Value.slice A2 s.size c2).ownBlock = some q → q < w.heap.size := fun q hq => (own_lt hx.2.1 q hq).2
  have HVL := Lib.hid hvl
  have HS := Lib.hid (hs.new hn1)
  have HKS := Lib.hid (fun e he => (hks e he).new hn1)
  have HN1 := Lib.hid hn1
  have hbx := heap_alloc_new w (.cells #[.int .u8 5, .int .i64 n, .string t, .slice (some ⟨g0, o0, none⟩) es.length c, .bool false] 58)
  have HBX := Lib.hid hbx
  have HT := Lib.hid hT
  have HW := Lib.hid (weeL_mem hwee)
  have HM := Lib.hid (mayL_mem hmay)
  have HIH := Lib.hid ih
  have HHG := Lib.hid hhg
  have HGB := Lib.hid hGb
  have HZ1 : Hid ((w.alloc (.cells #[.int .u8 5, .int .i64 n, .string t, .slice (some ⟨g0, o0, none⟩) es.length c, .bool false] 58)).heap.size = w.heap.size + 1) := Lib.hid (by simp)
  clear hGv hvl hs hks hn1 hx hbx m3 m4 hT hwee hmay ih hGb hhg
  go_enter Try.func110, Try.ntmps110
  go_upto_region 5 with (at_builtin; refine wpList_append_row ((w.alloc (.cells #[.int .u8 5, .int .i64 n, .string t, .slice (some ⟨g0, o0, none⟩) es.length c, .bool false] 58)).alloc (.cells #[.int .u8 40] 5)) (by rfl) (.tmp 51) (.tmp 52) 133 (by rfl) base 5 i0 _ 1 1 Try.underlying133 hi0 hz0 hz1 hz2 rfl (by decide) (.slice A2 s.size c2) s.size (Lib.strCells s) (by rfl) (HX.out.2.1.alloc (.cells #[.int .u8 40] 5)) (.slice (some ⟨w.heap.size + 1, 0, none⟩) 1 1) 1 [.int .u8 40] (by rfl) (.inr ⟨w.heap.size + 1, 1, rfl, rfl, World.news_of_block (alloc2 w (.cells #[.int .u8 5, .int .i64 n, .string t, .slice (some ⟨g0, o0, none⟩) es.length c, .bool false] 58) (.cells #[.int .u8 40] 5))⟩) (byte_one 40) M3.out M4.out (by simp; omega) ?_; intro v1 w4 ho4 hg4 hat4; obtain ⟨A3, c3, rfl⟩ := own_form ho4; have hwr := wrote_byte (c := 40) (.cells #[.int .u8 40] 5) HX.out ho4 hg4 hat4; obtain ⟨⟨z0, z1⟩, ⟨zf0, zf1⟩, zlt⟩ := wtr_cells (wtr_grown (HX.out.new ((Upd.refl (fun _ => False) (w.alloc (.cells #[.int .u8 5, .int .i64 n, .string t, .slice (some ⟨g0, o0, none⟩) es.length c, .bool false] 58))).alloc (.cells #[.int .u8 40] 5))) hg4); have hz9 := (wtr_cells (wtr_put (bv' := .slice A3 (s.size + 1) c3) (wtr_grown (HX.out.new ((Upd.refl (fun _ => False) (w.alloc (.cells #[.int .u8 5, .int .i64 n, .string t, .slice (some ⟨g0, o0, none⟩) es.length c, .bool false] 58))).alloc (.cells #[.int .u8 40] 5))) hg4))).1.1; have HWR := Lib.hid hwr; clear ho4 hg4 hat4 hwr)
  generalize w4.setCell ⟨wb, 0, none⟩ (.slice A3 (s.size + 1) c3) = W5 at *
  have hfG : ∀ q, G q → ¬ (q = wb ∨ (Value.slice A2 s.size c2).ownBlock = some q) := fun q hq e => by
    rcases e with e | e
    · exact hG (e ▸ hq)
    · exact HGv.out q e hq
  have hHne : ¬ (w.heap.size = wb ∨ (Value.slice A2 s.size c2).ownBlock = some w.heap.size) := fun e => by
    rcases e with e | e
    · omega
    · have := HVL.out _ e; omega
  have hbx5 : W5.heap[w.heap.size]? = some (.cells #[.int .u8 5, .int .i64 n, .string t, .slice (some ⟨g0, o0, none⟩) es.length c, .bool false] 58 (0, 0)) := by
    obtain ⟨v', _, hu5, _⟩ := HWR.out
    exact hu5.heap HBX.out hHne
  obtain ⟨⟨e0, e1, e2, e3, e4⟩, ef⟩ := blk5 hbx5
  have HBX5 := Lib.hid hbx5
  have HFG := Lib.hid hfG
  clear hbx5 z0 z1 zf0 zf1 zlt hz9 c0 c1 cf0 cf1 hfG hHne
  go_wp2_with fail
  have hszI : (es.length : Int) ≤ 2000000 := by omega
  go_loopw [59] (fun i wr => ∃ j : Nat, j ≤ es.length ∧ i = .int .i64 j ∧ Sofar (w.alloc (.cells #[.int .u8 5, .int .i64 n, .string t, .slice (some ⟨g0, o0, none⟩) es.length c, .bool false] 58)) base wb m (s ++ (⟨#[40]⟩ ++ preT ((es.map El.d).map txtD) es.length false j)) (.slice A2 s.size c2) wr ∧ wr.heap[w.heap.size]? = some (.cells #[.int .u8 5, .int .i64 n, .string t, .slice (some ⟨g0, o0, none⟩) es.length c, .bool false] 58 (0, 0)) ∧ s.size + (1 + (preT ((es.map El.d).map txtD) es.length false j).size) ≤ 2000001 ∧ (0 < j → s.size + (1 + (preT ((es.map El.d).map txtD) es.length false j).size) ≤ 65536)) (fun i _ => es.length - (intOf i).toNat)
  case atStart =>
    have e1 : (⟨#[40]⟩ : ByteArray) ++ preT ((es.map El.d).map txtD) es.length false 0 = ⟨#[40]⟩ := rfl
    have e2 : (preT ((es.map El.d).map txtD) es.length false 0).size = 0 := rfl
    exact ⟨0, Nat.zero_le _, rfl, (by rw [e1]; exact HWR.out), HBX5.out, (by omega), (by omega)⟩
  case round =>
    obtain ⟨j, hj, rfl, hsf, hbxr, hsz, hszp⟩ := hrel
    have HSZP := Lib.hid hszp
    clear hszp
    by_cases hjl : j < es.length
    · obtain ⟨v', htx, hu, hv⟩ := hsf
      obtain ⟨A5, c5, rfl⟩ := own_form htx.2.1
      obtain ⟨⟨y0, y1⟩, ⟨yf0, yf1⟩, ylt⟩ := wtr_cells htx.1
      obtain ⟨g, o, cc, hA, hGg, hltg, x0, x1, x2, x3, x4⟩ := (HS.out.upd hu HFG.out).at j hjl
      simp only [Value.slice.injEq, Option.some.injEq, Addr.mk.injEq] at hA
      obtain ⟨⟨rfl, rfl, -⟩, -, -⟩ := hA
      have hmem := List.getElem_mem hjl
      have hkk := (HKS.out _ hmem).upd hu HFG.out
      obtain ⟨es3, hes3, hseen3, _⟩ := hkk.inv
      obtain ⟨A4, c4, hkv⟩ := hseen3.form
      have q0 : (0 : Int) ≤ j := by omega
      have q1 : (j : Int) < es.length := by omega
      have q2 : IntKind.i64.wrap ((j : Int) + 1) = (j : Int) + 1 := IntWalk.i64_in _ (by omega)
      obtain ⟨⟨r0, r1, r2, r3, r4⟩, rf⟩ := blk5 hbxr
      have hblt : w.heap.size < wr.heap.size := (Array.getElem?_eq_some_iff.1 hbxr).1
      have hbr : base ≤ wr.heap.size := by omega
      have hSz : (s ++ (⟨#[40]⟩ ++ preT ((es.map El.d).map txtD) es.length false j)).size ≤ 2000001 := by simp only [ByteArray.size_append]; exact hsz
      have hxe : ∀ q, (Value.slice A5 (s ++ (⟨#[40]⟩ ++ preT ((es.map El.d).map txtD) es.length false j)).size c5).ownBlock = some q → q < wr.heap.size := fun q hq => (own_lt htx.2.1 q hq).2
      have HXE := Lib.hid hxe
      have HS0 : Hid (j = 0 → (s ++ (⟨#[40]⟩ ++ preT ((es.map El.d).map txtD) es.length false j)).size = s.size + 1) := Lib.hid (fun h => by subst h; simp only [ByteArray.size_append]; rfl)
      have HSP : Hid (0 < j → (s ++ (⟨#[40]⟩ ++ preT ((es.map El.d).map txtD) es.length false j)).size ≤ 65536) := Lib.hid (fun h => by simp only [ByteArray.size_append]; exact HSZP.out h)
      have HHJ := Lib.hid (HHG.out _ hmem)
      have HKK := Lib.hid hkk
      have HTX := Lib.hid htx
      have HUU := Lib.hid hu
      have HVV := Lib.hid hv
      have HBR := Lib.hid hbxr
      have IHJ := Lib.hid (HIH.out _ hmem)
      have HWJ := Lib.hid (HW.out _ (List.mem_map.2 ⟨_, hmem, rfl⟩))
      have HMJ := Lib.hid (HM.out _ (List.mem_map.2 ⟨_, hmem, rfl⟩))
      have HGT := Lib.hid (getD_txt es j hjl)
      have hov : (txtD (.mk 5 n t (es.map El.d) false)).size = 1 + (preT ((es.map El.d).map txtD) es.length false es.length).size + 1 := by rw [HT.out, ByteArray.size_append, ByteArray.size_append]; rfl
      have HOV := Lib.hid hov
      have HPL := Lib.hid (preT_le ((es.map El.d).map txtD) es.length false (j + 1) es.length hjl)
      generalize hV : es[j] = X at *
      obtain ⟨xd, xkv, xbs⟩ := X
      simp only at *
      subst hkv
      generalize hSJ : s ++ (⟨#[40]⟩ ++ preT ((es.map El.d).map txtD) es.length false j) = S at *
      have HSJ := Lib.hid hSJ
      clear hkk htx hu hv hmem hes3 hseen3 hov hxe hV hbxr hSJ hsz
      have hnb : New wr (wr.alloc (.cells #[.int .u8 xd.k, .int .i64 xd.n, .string xd.t, .slice A4 es3.length c4, .bool xd.dot] 58)) := (Upd.refl (fun _ => False) wr).alloc _
      have HKB5 := Lib.hid (heap_alloc_new wr (.cells #[.int .u8 xd.k, .int .i64 xd.n, .string xd.t, .slice A4 es3.length c4, .bool xd.dot] 58))
      have HNB := Lib.hid hnb
      have HX5 := Lib.hid (HTX.out.new hnb)
      have HBR5 := Lib.hid (hnb.heap HBR.out (fun x => x))
      have HK5 := Lib.hid (HKK.out.new hnb)
      have HW5 := Lib.hid (show Wrote (w.alloc (.cells #[.int .u8 5, .int .i64 n, .string t, .slice (some ⟨g0, o0, none⟩) es.length c, .bool false] 58)) base wb m S (.slice A2 s.size c2) (wr.alloc (.cells #[.int .u8 xd.k, .int .i64 xd.n, .string xd.t, .slice A4 es3.length c4, .bool xd.dot] 58)) from ⟨_, HX5.out, HUU.out.trans (hnb.mono fun _ _ x => x.elim), HVV.out⟩)
      clear hnb
      by_cases hj0 : j = 0
      · have HJ0 := Lib.hid hj0
        have hjd : decide ((0 : Int) < (j : Int)) = false := decide_eq_false (by omega)
        have hjm : ¬ ((0 : Int) < (j : Int)) := by omega
        clear hj0
        go_upto_region 10 with (fail)
        clear hjd hjm
        have hS5 : S.size + 4 * xd.hgt ≤ 2000000 := by have h1 := HS0.out HJ0.out; have h2 := HHJ.out.1; omega
        generalize wr.alloc (.cells #[.int .u8 xd.k, .int .i64 xd.n, .string xd.t, .slice A4 es3.length c4, .bool xd.dot] 58) = W6 at *
        obtain ⟨⟨p0, p1, p2, p3, p4⟩, pf⟩ := blk5 HBR5.out
        obtain ⟨v6, ht6, hu6, hv6⟩ := HW5.out
        have hcall := IHJ.out (.slice A4 es3.length c4) G base wb m S v6 W6 HK5.out (fun q hq => Nat.lt_of_lt_of_le (HGB.out q hq) (by have h1 := hu6.size; have h2 := HZ1.out; omega)) hG (fun q hq hg => by
          rcases hv6 with e | e
          · rw [e] at hq; exact HGv.out q hq hg
          · have h1 := e q hq; have h2 := HGB.out q hg; have h3 := HZ1.out; omega) ht6 (by have h1 := hu6.size; have h2 := HZ1.out; omega) hS5 HHJ.out.2 HWJ.out HMJ.out
        have HPE := Lib.hid (show s ++ (⟨#[40]⟩ ++ preT ((es.map El.d).map txtD) es.length false (j + 1)) = S ++ txtD xd from (by have h := piece_a s ⟨#[40]⟩ ((es.map El.d).map txtD) es.length false j _ HGT.out HJ0.out (fun h => by have := h.1; cases this); rw [HSJ.out] at h; exact h))
        obtain ⟨⟨k0, k1, k2, k3, k4⟩, kf⟩ := blk5 HKB5.out
        have HC := Lib.hid hcall
        have HU6 := Lib.hid hu6
        have HV6 := Lib.hid hv6
        have HB6 := HBR5
        clear hcall hu6 hv6 ht6 y0 y1 yf0 yf1 x0 x1 x2 x3 x4 r0 r1 r2 r3
        unfold datV at HC
        go_wp2_with fail
        refine HC.out.mono ?_
        rintro e w7 h
        have HH := Lib.hid h
        rcases h with ⟨q1', rfl, q2'⟩ | ⟨q1', rfl, q2'⟩
        · clear q1' q2'
          go_wp2_with fail
          go_roundw
          case measure => simp [intOf]; omega
          case rel =>
            rcases HH.out with ⟨q1, _, q2⟩ | ⟨_, q3, _⟩
            · have hfin := wrote_trans HU6.out HV6.out q2
              rw [← HPE.out] at hfin
              have hsz7 := congrArg ByteArray.size HPE.out
              simp only [ByteArray.size_append] at hsz7 q1
              have h40 : (⟨#[40]⟩ : ByteArray).size = 1 := rfl
              have h32 : (⟨#[32]⟩ : ByteArray).size = 1 := rfl
              have h46 : (⟨#[46, 32]⟩ : ByteArray).size = 2 := rfl
              obtain ⟨v8, _, hu8, _⟩ := q2
              refine ⟨j + 1, by omega, by simp, hfin, hu8.heap HB6.out ?_, by omega, by omega⟩
              rintro (e | e)
              · omega
              · rcases HV6.out with e2 | e2
                · rw [e2] at e; have := HVL.out _ e; omega
                · have h1 := e2 _ e; have h2 := HZ1.out; omega
            · cases q3
        · clear q1' q2'
          go_wp2_with fail
          go_ret
          rcases HH.out with ⟨_, q3, _⟩ | ⟨q1, _, q2⟩
          · cases q3
          · refine over_end HU6.out HV6.out q2 q1 ?_
            have hsz7 := congrArg ByteArray.size HPE.out
            simp only [ByteArray.size_append] at hsz7 ⊢
            have h40 : (⟨#[40]⟩ : ByteArray).size = 1 := rfl
            have h32 : (⟨#[32]⟩ : ByteArray).size = 1 := rfl
            have h46 : (⟨#[46, 32]⟩ : ByteArray).size = 2 := rfl
            have := HPL.out
            have := HOV.out
            omega
      · have hjp : 0 < j := by omega
        have hjq : (0 : Int) < (j : Int) := by omega
        have hjd : decide ((0 : Int) < (j : Int)) = true := decide_eq_true hjq
        have M5 := Lib.hid (show S.size + 1 ≤ maxLen by unfold maxLen; omega)
        have M6 := Lib.hid (show (S.size + 1) * 1 ≤ 140737488355328 by omega)
        clear hj0
        go_upto_region 10 with (at_builtin; refine wpList_append_row ((wr.alloc (.cells #[.int .u8 xd.k, .int .i64 xd.n, .string xd.t, .slice A4 es3.length c4, .bool xd.dot] 58)).alloc (.cells #[.int .u8 32] 5)) (by rfl) (.tmp 70) (.tmp 71) 133 (by rfl) base 5 i0 _ 1 1 Try.underlying133 hi0 hz0 hz1 hz2 rfl (by decide) (.slice A5 S.size c5) S.size (Lib.strCells S) (by rfl) (HX5.out.2.1.alloc (.cells #[.int .u8 32] 5)) (.slice (some ⟨wr.heap.size + 1, 0, none⟩) 1 1) 1 [.int .u8 32] (by rfl) (.inr ⟨wr.heap.size + 1, 1, rfl, rfl, World.news_of_block (alloc2 wr (.cells #[.int .u8 xd.k, .int .i64 xd.n, .string xd.t, .slice A4 es3.length c4, .bool xd.dot] 58) (.cells #[.int .u8 32] 5))⟩) (byte_one 32) M5.out M6.out (by simp; omega) ?_; intro v1 w4 ho4 hg4 hat4; obtain ⟨A3, c3, rfl⟩ := own_form ho4; have hwr := wrote_byte (c := 32) (.cells #[.int .u8 32] 5) HX5.out ho4 hg4 hat4; obtain ⟨⟨z0, z1⟩, ⟨zf0, zf1⟩, zlt⟩ := wtr_cells (wtr_grown (HX5.out.new ((Upd.refl (fun _ => False) (wr.alloc (.cells #[.int .u8 xd.k, .int .i64 xd.n, .string xd.t, .slice A4 es3.length c4, .bool xd.dot] 58))).alloc (.cells #[.int .u8 32] 5))) hg4); have hz9 := (wtr_cells (wtr_put (bv' := .slice A3 (S.size + 1) c3) (wtr_grown (HX5.out.new ((Upd.refl (fun _ => False) (wr.alloc (.cells #[.int .u8 xd.k, .int .i64 xd.n, .string xd.t, .slice A4 es3.length c4, .bool xd.dot] 58))).alloc (.cells #[.int .u8 32] 5))) hg4))).1.1; have HWR6 := Lib.hid hwr; clear ho4 hg4 hat4 hwr)
        have HS6 : Hid ((S ++ ⟨#[32]⟩).size = S.size + 1) := Lib.hid (by rw [ByteArray.size_append]; rfl)
        generalize w4.setCell ⟨wb, 0, none⟩ (.slice A3 (S.size + 1) c3) = W6 at *
        clear z0 z1 zf0 zf1 zlt hz9
        have HW6 := Lib.hid (wrote_trans (HUU.out.trans (HNB.out.mono fun _ _ x => x.elim)) HVV.out HWR6.out)
        obtain ⟨v9, _, hu9, _⟩ := HWR6.out
        have hnk : ¬ (wr.heap.size = wb ∨ (Value.slice A5 S.size c5).ownBlock = some wr.heap.size) := by
          rintro (e | e)
          · omega
          · have := HXE.out _ e; omega
        have hnh : ¬ (w.heap.size = wb ∨ (Value.slice A5 S.size c5).ownBlock = some w.heap.size) := by
          rintro (e | e)
          · omega
          · rcases HVV.out with e2 | e2
            · rw [e2] at e; have := HVL.out _ e; omega
            · have h1 := e2 _ e; have h2 := HZ1.out; omega
        have hng : ∀ q, G q → ¬ (q = wb ∨ (Value.slice A5 S.size c5).ownBlock = some q) := by
          rintro q hq (e | e)
          · exact hG (e ▸ hq)
          · rcases HVV.out with e2 | e2
            · rw [e2] at e; exact HGv.out q e hq
            · have h1 := e2 q e; have h2 := HGB.out q hq; have h3 := HZ1.out; omega
        have HKB6 := Lib.hid (hu9.heap HKB5.out hnk)
        have HBR6 := Lib.hid (hu9.heap HBR5.out hnh)
        have HK6 := Lib.hid (HK5.out.upd hu9 hng)
        clear hu9 hnk hnh hng
        have hS6 : (S ++ ⟨#[32]⟩).size + 4 * xd.hgt ≤ 2000000 := by rw [HS6.out]; have h1 := HSP.out hjp; have h2 := HHJ.out.2; omega
        obtain ⟨⟨p0, p1, p2, p3, p4⟩, pf⟩ := blk5 HBR6.out
        obtain ⟨v6, ht6, hu6, hv6⟩ := HW6.out
        have hcall := IHJ.out (.slice A4 es3.length c4) G base wb m (S ++ ⟨#[32]⟩) v6 W6 HK6.out (fun q hq => Nat.lt_of_lt_of_le (HGB.out q hq) (by have h1 := hu6.size; have h2 := HZ1.out; omega)) hG (fun q hq hg => by
          rcases hv6 with e | e
          · rw [e] at hq; exact HGv.out q hq hg
          · have h1 := e q hq; have h2 := HGB.out q hg; have h3 := HZ1.out; omega) ht6 (by have h1 := hu6.size; have h2 := HZ1.out; omega) hS6 HHJ.out.2 HWJ.out HMJ.out
        have HPE := Lib.hid (show s ++ (⟨#[40]⟩ ++ preT ((es.map El.d).map txtD) es.length false (j + 1)) = (S ++ ⟨#[32]⟩) ++ txtD xd from (by have h := piece_b s ⟨#[40]⟩ ((es.map El.d).map txtD) es.length false j _ HGT.out hjp (fun h => by have := h.1; cases this); rw [HSJ.out] at h; exact h))
        obtain ⟨⟨k0, k1, k2, k3, k4⟩, kf⟩ := blk5 HKB6.out
        have HC := Lib.hid hcall
        have HU6 := Lib.hid hu6
        have HV6 := Lib.hid hv6
        have HB6 := HBR6
        clear hcall hu6 hv6 ht6 y0 y1 yf0 yf1 x0 x1 x2 x3 x4 r0 r1 r2 r3
        unfold datV at HC
        go_wp2_with fail
        refine HC.out.mono ?_
        rintro e w7 h
        have HH := Lib.hid h
        rcases h with ⟨q1', rfl, q2'⟩ | ⟨q1', rfl, q2'⟩
        · clear q1' q2'
          go_wp2_with fail
          go_roundw
          case measure => simp [intOf]; omega
          case rel =>
            rcases HH.out with ⟨q1, _, q2⟩ | ⟨_, q3, _⟩
            · have hfin := wrote_trans HU6.out HV6.out q2
              rw [← HPE.out] at hfin
              have hsz7 := congrArg ByteArray.size HPE.out
              simp only [ByteArray.size_append] at hsz7 q1
              have h40 : (⟨#[40]⟩ : ByteArray).size = 1 := rfl
              have h32 : (⟨#[32]⟩ : ByteArray).size = 1 := rfl
              have h46 : (⟨#[46, 32]⟩ : ByteArray).size = 2 := rfl
              obtain ⟨v8, _, hu8, _⟩ := q2
              refine ⟨j + 1, by omega, by simp, hfin, hu8.heap HB6.out ?_, by omega, by omega⟩
              rintro (e | e)
              · omega
              · rcases HV6.out with e2 | e2
                · rw [e2] at e; have := HVL.out _ e; omega
                · have h1 := e2 _ e; have h2 := HZ1.out; omega
            · cases q3
        · clear q1' q2'
          go_wp2_with fail
          go_ret
          rcases HH.out with ⟨_, q3, _⟩ | ⟨q1, _, q2⟩
          · cases q3
          · refine over_end HU6.out HV6.out q2 q1 ?_
            have hsz7 := congrArg ByteArray.size HPE.out
            simp only [ByteArray.size_append] at hsz7 ⊢
            have h40 : (⟨#[40]⟩ : ByteArray).size = 1 := rfl
            have h32 : (⟨#[32]⟩ : ByteArray).size = 1 := rfl
            have h46 : (⟨#[46, 32]⟩ : ByteArray).size = 2 := rfl
            have := HPL.out
            have := HOV.out
            omega
    · have hje : j = es.length := by omega
      have q1 : ¬ (j : Int) < es.length := by omega
      obtain ⟨v', htx, hu, hv⟩ := hsf
      obtain ⟨A5, c5, rfl⟩ := own_form htx.2.1
      obtain ⟨⟨y0, y1⟩, ⟨yf0, yf1⟩, ylt⟩ := wtr_cells htx.1
      have hTX := Lib.hid htx
      have HUU := Lib.hid hu
      have HVV := Lib.hid hv
      have hS : (s ++ (⟨#[40]⟩ ++ preT ((es.map El.d).map txtD) es.length false j)).size ≤ 2000001 := by
        simp only [ByteArray.size_append]; exact hsz
      have hTT : s ++ txtD (.mk 5 n t (es.map El.d) false) = (s ++ (⟨#[40]⟩ ++ preT ((es.map El.d).map txtD) es.length false j)) ++ ⟨#[41]⟩ := by
        rw [HT.out, hje]; simp only [ByteArray.append_assoc]
      have HTT := Lib.hid hTT
      generalize s ++ (⟨#[40]⟩ ++ preT ((es.map El.d).map txtD) es.length false j) = S at *
      have M5 := Lib.hid (show S.size + 1 ≤ maxLen by unfold maxLen; omega)
      have M6 := Lib.hid (show (S.size + 1) * 1 ≤ 140737488355328 by omega)
      have hbr : base ≤ wr.heap.size := by have h1 := hu.size; have h2 := HZ1.out; omega
      clear htx hu hv hS hTT
      go_wp2_with (at_builtin; refine wpList_append_row (wr.alloc (.cells #[.int .u8 41] 5)) (by rfl) (.tmp 102) (.tmp 103) 133 (by rfl) base 5 i0 _ 1 1 Try.underlying133 hi0 hz0 hz1 hz2 rfl (by decide) (.slice A5 S.size c5) S.size (Lib.strCells S) (by rfl) (hTX.out.2.1.alloc (.cells #[.int .u8 41] 5)) (.slice (some ⟨wr.heap.size, 0, none⟩) 1 1) 1 [.int .u8 41] (by rfl) (.inr ⟨wr.heap.size, 1, rfl, rfl, World.news_of_block (heap_alloc_new wr (.cells #[.int .u8 41] 5))⟩) (byte_one 41) M5.out M6.out (by simp; omega) ?_; intro v1 w4 ho4 hg4 hat4; obtain ⟨A3, c3, rfl⟩ := own_form ho4; have hwr := wrote_byte (c := 41) (.cells #[.int .u8 41] 5) hTX.out ho4 hg4 hat4; obtain ⟨⟨z0, z1⟩, ⟨zf0, zf1⟩, zlt⟩ := wtr_cells (wtr_grown (hTX.out.new ((Upd.refl (fun _ => False) wr).alloc (.cells #[.int .u8 41] 5))) hg4); have hz9 := (wtr_cells (wtr_put (bv' := .slice A3 (S.size + 1) c3) (wtr_grown (hTX.out.new ((Upd.refl (fun _ => False) wr).alloc (.cells #[.int .u8 41] 5))) hg4))).1.1; have HWR := Lib.hid hwr; clear ho4 hg4 hat4 hwr)
      go_ret
      have hfin := wrote_trans HUU.out HVV.out HWR.out
      have hsS : s.size + (txtD (.mk 5 n t (es.map El.d) false)).size = S.size + 1 := by
        have := congrArg ByteArray.size HTT.out
        simp only [ByteArray.size_append] at this
        exact this
      by_cases hc : S.size + 1 ≤ 65536
      · exact .inl ⟨by omega, (by rw [decide_eq_true (by omega)]; rfl), by rw [HTT.out]; exact hfin⟩
      · obtain ⟨v9, _, h2, _⟩ := hfin
        exact .inr ⟨by omega, (by rw [decide_eq_false (by omega)]; rfl), h2.mono fun b _ e => e.imp id .inl⟩
end Go.Proofs.Ytnnjhafjcdjobaa
