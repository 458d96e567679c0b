/- Read: the reference's writing: digits, data, how deep, how many. -/
import Derived.Test.YtnnjhafjcdjobaaLwC
namespace Go.Proofs.Ytnnjhafjcdjobaa
open Go.RowKit
set_option linter.unusedVariables false
set_option linter.unusedSimpArgs false

theorem conv_digit (m : Nat) (h : m < 10) (w : World) : (convert 133 9 (.slice (some ⟨w.heap.size, 0, none⟩) 1 1)).run Try.prog (w.alloc (.cells #[.int .u8 (48 + (m : Int))] 5)) = .ok (.string ⟨#[UInt8.ofNat (48 + m)]⟩) (w.alloc (.cells #[.int .u8 (48 + (m : Int))] 5)) := by
  have := run_convert_bytes_back (P := Try.prog) (w.alloc (.cells #[.int .u8 (48 + (m : Int))] 5)) 133 9 5 ⟨w.heap.size, 0, none⟩ 1 [UInt8.ofNat (48 + m)] Try.underlying133 Try.underlying5 Try.underlying9 (fun j hj => by
    have hj0 : j = 0 := by simp at hj; omega
    subst hj0
    rw [addr_add, cell_of_row _ _ _ _ _ _ (heap_alloc_new w (.cells #[.int .u8 (48 + (m : Int))] 5))]
    have hv : (UInt8.ofNat (48 + m)).toNat = 48 + m := by
      rw [UInt8.toNat_ofNat']; omega
    simp [hv]; omega)
  exact this
set_option maxRecDepth 20000 in
theorem Rdig_nat : ∀ k : Nat, k ≤ 576460752303423488 → ∀ w, Calls Try.prog 107 #[.int .i64 k] w fun e w' => e = .returned (.string (natT k)) ∧ New w w' := by
  intro k
  induction k using Nat.strongRecOn with
  | ind k ih =>
    intro hk w
    have k0 : ¬ (k : Int) < 0 := by omega
    obtain ⟨m, hm⟩ : ∃ m, k % 10 = m := ⟨_, rfl⟩
    have hm10 : m < 10 := by omega
    have hmod : (k : Int) % 10 = (m : Int) := by omega
    have hc := conv_digit m hm10 w
    obtain ⟨D, hD⟩ : ∃ D, (⟨#[UInt8.ofNat (48 + m)]⟩ : ByteArray) = D := ⟨_, rfl⟩
    rw [hD] at hc
    have hD1 : D.size = 1 := by rw [← hD]; rfl
    have hu8 : IntKind.u8.wrap (48 + (m : Int)) = 48 + (m : Int) := by
      have : m = 0 ∨ m = 1 ∨ m = 2 ∨ m = 3 ∨ m = 4 ∨ m = 5 ∨ m = 6 ∨ m = 7 ∨ m = 8 ∨ m = 9 := by omega
      rcases this with rfl | rfl | rfl | rfl | rfl | rfl | rfl | rfl | rfl | rfl <;> rfl
    have hi64 : IntKind.i64.wrap (48 + (m : Int)) = 48 + (m : Int) := IntWalk.i64_in _ (by omega)
    have hmI : (m : Int) < 10 := by omega
    have hm0 : (0 : Int) ≤ m := by omega
    have HN := Lib.hid (show New w (w.alloc (.cells #[.int .u8 (48 + (m : Int))] 5)) from (Upd.refl (fun _ => False) w).alloc _)
    have HM := Lib.hid hm
    go_enter Try.func107, Try.ntmps107
    by_cases h10 : k < 10
    · have k1 : (k : Int) < 10 := by omega
      have hkm : k = m := by omega
      have HT := Lib.hid (show natT k = D by rw [natT_small h10, ← hD, hkm])
      have hkm1 : (m : Int) = k := by omega
      rw [hkm1] at hmod hc hu8 hi64 hmI hm0 HN
      clear ih hk hm hD hkm hkm1
      go_wp2_with fail
      go_ret
      refine ⟨?_, HN.out⟩
      rw [HT.out]; rfl
    · have k1 : ¬ (k : Int) < 10 := by omega
      have hq : ((k / 10 : Nat) : Int) = (k : Int) / 10 := by omega
      have hih := ih (k / 10) (by omega) (by omega)
      rw [hq] at hih
      replace hih := Lib.hid hih
      have hwr : IntKind.i64.wrap ((k : Int) / 10) = (k : Int) / 10 := IntWalk.i64_in _ (by omega)
      have hw2 : wrap64 ((k : Int) / 10) = (k : Int) / 10 := by simpa [IntKind.wrap_i64, wrap64] using hwr
      have hsz : ¬ 9223372036854775807 < (natT (k / 10)).size + D.size := by
        have h1 := natT_size (k / 10)
        omega
      have HT := Lib.hid (show natT k = natT (k / 10) ++ D by rw [natT_more h10, ← hD, hm])
      clear ih hq hk hm hD
      go_wp2_with fail
      refine (hih.out _).mono ?_
      rintro e w1 ⟨rfl, hu⟩
      have HU := Lib.hid (HN.out.trans hu)
      clear hu
      go_wp2_with fail
      go_ret
      refine ⟨?_, HU.out⟩
      rw [HT.out]; rfl
set_option maxRecDepth 20000 in
theorem Rdigits_calls (n : Int) (h : -576460752303423488 ≤ n) (h2 : n ≤ 576460752303423488) (w : World) : Calls Try.prog 107 #[.int .i64 n] w fun e w' => e = .returned (.string (numT n)) ∧ New w w' := by
  by_cases h0 : n < 0
  · have hd := Rdig_nat n.natAbs (by omega)
    have hn : (n.natAbs : Int) = -n := by omega
    rw [hn] at hd
    have hi : IntKind.i64.wrap (-n) = -n := IntWalk.i64_in _ (by omega)
    go_enter Try.func107, Try.ntmps107
    unfold numT
    rw [if_pos h0]
    replace hd := Lib.hid hd
    have hsz : ¬ 9223372036854775807 < 1 + (natT n.natAbs).size := by have := natT_size n.natAbs; omega
    clear h h2 hn
    go_wp2_with fail
    refine (hd.out _).mono ?_
    rintro e w1 ⟨rfl, hu⟩
    have HU := Lib.hid hu
    clear hu
    go_wp2_with fail
    go_ret
    exact ⟨rfl, HU.out⟩
  · have hd := Rdig_nat n.natAbs (by omega)
    have hn : (n.natAbs : Int) = n := by omega
    rw [hn] at hd
    unfold numT
    rw [if_neg h0]
    exact hd w
set_option maxHeartbeats 4000000 in
set_option maxRecDepth 20000 in
theorem Rdeep_calls : ∀ (d : Dat) (kv : Value) (w : World), Sees w All kv d.kids → d.hgt ≤ 60000 → Calls Try.prog 75 #[datV d kv] w fun e w' => e = .returned (.int .i64 (d.deep : Nat)) ∧ New w w' := by
  intro d
  induction d using Dat.ind with
  | h k n t kids dot ih =>
    intro kv w hs hh
    simp only [Dat.kids] at hs
    obtain ⟨es, rfl, hseen, hn, hks⟩ := hs.inv
    obtain ⟨A, c, rfl⟩ := hseen.form
    unfold datV
    simp only [Dat.k, Dat.n, Dat.t, Dat.dot]
    have hbx := heap_alloc_new w (.cells #[.int .u8 k, .int .i64 n, .string t, .slice A es.length c, .bool dot] 58)
    have hup : New w (w.alloc (.cells #[.int .u8 k, .int .i64 n, .string t, .slice A es.length c, .bool dot] 58)) := (Upd.refl (fun _ => False) w).alloc _
    obtain ⟨⟨a0, a1, a2, a3, a4⟩, af⟩ := blk5 hbx
    have HN := Lib.hid hup
    have HB := Lib.hid hbx
    have HS := Lib.hid (hseen.new hup)
    have HK := Lib.hid (fun e he => (hks e he).new hup)
    have HIH := Lib.hid ih
    have hnI : (es.length : Int) ≤ 2000000 := by omega
    clear hs hseen hks ih hbx hup hn
    by_cases h5 : k = 5
    · subst h5
      rw [Dat.hgt] at hh
      have HH := Lib.hid hh
      clear hh
      go_enter Try.func75, Try.ntmps75
      go_wp2_with fail
      generalize w.alloc (.cells #[.int .u8 5, .int .i64 n, .string t, .slice A es.length c, .bool dot] 58) = W at *
      clear a0 a1 a2 a3 a4 af
      go_loopw [3, 4] (fun rv i wr => New W wr ∧ ∃ j : Nat, j ≤ es.length ∧ i = .int .i64 j ∧ rv = .int .i64 (deepL ((es.map El.d).take j) : Nat)) (fun _ i _ => es.length - (intOf i).toNat)
      case atStart => exact ⟨Upd.refl (fun _ => False) W, 0, Nat.zero_le _, rfl, by simp [deepL]⟩
      case round =>
        obtain ⟨hn, j, hj, rfl, rfl⟩ := hrel
        have HN2 := Lib.hid hn
        obtain ⟨⟨a0, a1, a2, a3, a4⟩, af⟩ := blk5 (hn.heap HB.out (fun x => x))
        clear hn
        by_cases hjl : j < es.length
        · have j0 : (0 : Int) ≤ j := by omega
          have j1 : (j : Int) < es.length := by omega
          have j3 : IntKind.i64.wrap ((j : Int) + 1) = (j : Int) + 1 := IntWalk.i64_in _ (by omega)
          obtain ⟨g, o, cc, hA, hG, hlt, x0, x1, x2, x3, x4⟩ := (HS.out.new HN2.out).at j hjl
          simp only [Value.slice.injEq] at hA
          obtain ⟨rfl, -, -⟩ := hA
          have hmem := List.getElem_mem hjl
          have hkk := (HK.out _ hmem).new HN2.out
          obtain ⟨es3, hes3, hseen3, -⟩ := hkk.inv
          obtain ⟨A4, c4, hkv⟩ := hseen3.form
          have hmem2 : es[j].d ∈ es.map El.d := List.mem_map.2 ⟨_, hmem, rfl⟩
          have hcall := fun w' (hh : New wr w') => HIH.out es[j].d hmem2 es[j].kv w' (hkk.new hh) (by have h1 := hgtL_mem es[j].d hmem2; have h2 := HH.out; omega)
          have hstep : (es.map El.d).take (j + 1) = (es.map El.d).take j ++ [es[j].d] := take_succ_map es j hjl
          have HST := Lib.hid hstep
          have HC := Lib.hid hcall
          generalize hV : es[j] = X at *
          obtain ⟨xd, xkv, xbs⟩ := X
          simp only at *
          subst hkv
          clear hkk hes3 hseen3 hcall hstep hmem hmem2 hV
          unfold datV at HC
          go_wp2_with fail
          refine (HC.out _ (Upd.refl _ _)).mono ?_
          rintro e w5 ⟨rfl, hu5⟩
          have HU5 := Lib.hid hu5
          clear hu5
          go_wp2_with fail
          go_roundw
          case measure => simp [intOf]; omega
          case rel =>
            refine ⟨HN2.out.trans HU5.out, j + 1, by omega, by simp, ?_⟩
            rw [HST.out, deepL_append, deepL, deepL]; simp; omega
        · have j1 : ¬ (j : Int) < es.length := by omega
          have htk : (es.map El.d).take j = es.map El.d := List.take_of_length_le (by simp; omega)
          have hdd : (deepL (es.map El.d) : Int) ≤ 60000 := by
            have h1 := deep_le_hgt (.mk 5 0 ⟨#[]⟩ (es.map El.d) false)
            rw [Dat.deep, Dat.hgt, if_pos rfl] at h1
            have := HH.out; omega
          have hw : IntKind.i64.wrap ((deepL (es.map El.d) : Int) + 1) = (deepL (es.map El.d) : Int) + 1 := IntWalk.i64_in _ (by omega)
          rw [htk]
          clear htk
          go_wp2_with fail
          go_ret
          refine ⟨?_, HN.out.trans HN2.out⟩
          rw [Dat.deep, if_pos rfl]; simp
    · rw [Dat.deep, if_neg h5]
      have h5b : (k != 5) = true := by simpa using h5
      clear h5
      go_enter Try.func75, Try.ntmps75
      go_wp2_with fail
      go_ret
      exact ⟨rfl, HN.out⟩
set_option maxHeartbeats 4000000 in
set_option maxRecDepth 20000 in
theorem Rmany_calls : ∀ (d : Dat) (kv : Value) (w : World), Sees w All kv d.kids → d.many ≤ 1000000 → Calls Try.prog 76 #[datV d kv] w fun e w' => e = .returned (.int .i64 (d.many : Nat)) ∧ New w w' := by
  intro d
  induction d using Dat.ind with
  | h k n t kids dot ih =>
    intro kv w hs hh
    simp only [Dat.kids] at hs
    obtain ⟨es, rfl, hseen, hn, hks⟩ := hs.inv
    obtain ⟨A, c, rfl⟩ := hseen.form
    unfold datV
    simp only [Dat.k, Dat.n, Dat.t, Dat.dot]
    have hbx := heap_alloc_new w (.cells #[.int .u8 k, .int .i64 n, .string t, .slice A es.length c, .bool dot] 58)
    have hup : New w (w.alloc (.cells #[.int .u8 k, .int .i64 n, .string t, .slice A es.length c, .bool dot] 58)) := (Upd.refl (fun _ => False) w).alloc _
    obtain ⟨⟨a0, a1, a2, a3, a4⟩, af⟩ := blk5 hbx
    have HN := Lib.hid hup
    have HB := Lib.hid hbx
    have HS := Lib.hid (hseen.new hup)
    have HK := Lib.hid (fun e he => (hks e he).new hup)
    have HIH := Lib.hid ih
    have hnI : (es.length : Int) ≤ 2000000 := by omega
    clear hs hseen hks ih hbx hup hn
    rw [Dat.many] at hh ⊢
    have HH := Lib.hid hh
    clear hh
    go_enter Try.func76, Try.ntmps76
    go_wp2_with fail
    generalize w.alloc (.cells #[.int .u8 k, .int .i64 n, .string t, .slice A es.length c, .bool dot] 58) = W at *
    clear a0 a1 a2 a3 a4 af
    go_loopw [3, 4] (fun rv i wr => New W wr ∧ ∃ j : Nat, j ≤ es.length ∧ i = .int .i64 j ∧ rv = .int .i64 (1 + manyL ((es.map El.d).take j) : Nat)) (fun _ i _ => es.length - (intOf i).toNat)
    case atStart => exact ⟨Upd.refl (fun _ => False) W, 0, Nat.zero_le _, rfl, by simp [manyL]⟩
    case round =>
      obtain ⟨hn, j, hj, rfl, rfl⟩ := hrel
      have HN2 := Lib.hid hn
      obtain ⟨⟨a0, a1, a2, a3, a4⟩, af⟩ := blk5 (hn.heap HB.out (fun x => x))
      clear hn
      by_cases hjl : j < es.length
      · have j0 : (0 : Int) ≤ j := by omega
        have j1 : (j : Int) < es.length := by omega
        have j3 : IntKind.i64.wrap ((j : Int) + 1) = (j : Int) + 1 := IntWalk.i64_in _ (by omega)
        obtain ⟨g, o, cc, hA, hG, hlt, x0, x1, x2, x3, x4⟩ := (HS.out.new HN2.out).at j hjl
        simp only [Value.slice.injEq] at hA
        obtain ⟨rfl, -, -⟩ := hA
        have hmem := List.getElem_mem hjl
        have hkk := (HK.out _ hmem).new HN2.out
        obtain ⟨es3, hes3, hseen3, -⟩ := hkk.inv
        obtain ⟨A4, c4, hkv⟩ := hseen3.form
        have hmem2 : es[j].d ∈ es.map El.d := List.mem_map.2 ⟨_, hmem, rfl⟩
        have hcall := fun w' (hh : New wr w') => HIH.out es[j].d hmem2 es[j].kv w' (hkk.new hh) (by have h1 := manyL_get es j hjl; have h2 := HH.out; omega)
        have hstep : (es.map El.d).take (j + 1) = (es.map El.d).take j ++ [es[j].d] := take_succ_map es j hjl
        have HST := Lib.hid hstep
        have HC := Lib.hid hcall
        have hmg := manyL_get es j hjl
        have hbd : ((1 + manyL ((es.map El.d).take j) : Nat) : Int) + (es[j].d.many : Nat) ≤ 1000000 := by have h2 := HH.out; omega
        have HMG := Lib.hid hmg
        clear hmg
        generalize hV : es[j] = X at *
        obtain ⟨xd, xkv, xbs⟩ := X
        simp only at *
        subst hkv
        clear hkk hes3 hseen3 hcall hstep hmem hmem2 hV
        unfold datV at HC
        generalize hMM : manyL ((es.map El.d).take j) = M at *
        generalize hQQ : xd.many = Q at *
        have HMM := Lib.hid hMM
        have HQQ := Lib.hid hQQ
        clear hMM hQQ
        have hwr : IntKind.i64.wrap (((1 + M : Nat) : Int) + (Q : Nat)) = ((1 + M : Nat) : Int) + (Q : Nat) := IntWalk.i64_in _ (by omega)
        generalize hM1 : 1 + M = M1 at *
        have HM1 := Lib.hid hM1
        clear hM1
        go_wp2_with fail
        refine (HC.out _ (Upd.refl _ _)).mono ?_
        rintro e w5 ⟨rfl, hu5⟩
        have HU5 := Lib.hid hu5
        clear hu5
        go_wp2_with fail
        go_roundw
        case measure => simp [intOf]; omega
        case rel =>
          refine ⟨HN2.out.trans HU5.out, j + 1, by omega, by simp, ?_⟩
          rw [HST.out, manyL_append, manyL, manyL, HMM.out, HQQ.out]
          have := HM1.out
          simp; omega
      · have j1 : ¬ (j : Int) < es.length := by omega
        have htk : (es.map El.d).take j = es.map El.d := List.take_of_length_le (by simp; omega)
        rw [htk]
        clear htk
        go_wp2_with fail
        go_ret
        exact ⟨rfl, HN.out.trans HN2.out⟩
end Go.Proofs.Ytnnjhafjcdjobaa
