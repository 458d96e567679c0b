/- Read: parts of the laws: data that come in; how much they are; are lists of data the same? -/
import Derived.Test.YtnnjhafjcdjobaaLwA
import Derived.ChangeArms
import Derived.Deep.Slices
namespace Go.Proofs.Ytnnjhafjcdjobaa
open Go.RowKit
set_option linter.unusedVariables false
set_option linter.unusedSimpArgs false

/-- Data that are read, of any size. -/
inductive SeesB (w : World) : Value → List Dat → Prop
  | mk (v : Value) (es : List El) (h : Seen w All v es) (hn : es.length ≤ maxLen) (ht : ∀ e ∈ es, e.d.t.size ≤ maxLen) (hk : ∀ e ∈ es, SeesB w e.kv e.d.kids) : SeesB w v (es.map El.d)
theorem SeesB.inv {w : World} {v : Value} {l : List Dat} (h : SeesB w v l) : ∃ es : List El, l = es.map El.d ∧ Seen w All v es ∧ es.length ≤ maxLen ∧ (∀ e ∈ es, e.d.t.size ≤ maxLen) ∧ ∀ e ∈ es, SeesB w e.kv e.d.kids := by
  cases h with
  | mk _ es h hn ht hk => exact ⟨es, rfl, h, hn, ht, hk⟩
theorem SeesB.new {w w' : World} {v : Value} {l : List Dat} (h : SeesB w v l) (hu : New w w') : SeesB w' v l := by
  induction h with
  | mk v es h hn ht hk ih => exact .mk v es (h.new hu) hn ht ih
theorem SeesB.sees {w : World} {v : Value} {l : List Dat} (h : SeesB w v l) (hm : manyL l ≤ 2000000) : Sees w All v l := by
  induction h with
  | mk v es h hn ht hk ih =>
    have hlen := len_many (es.map El.d)
    rw [List.length_map] at hlen
    exact .mk v es h (by omega) fun e he => ih e he (by have := manyL_mem e.d (List.mem_map.2 ⟨e, he, rfl⟩); omega)
theorem spot_none {w : World} {a : Addr} {v : Value} (h : w.cell? a = some v) : a.spot = none := by
  unfold World.cell? at h
  split at h
  · cases hs : a.spot with
    | none => rfl
    | some q => simp [hs] at h
  · cases h
theorem addr_add (b o n : Nat) : (⟨b, o, none⟩ : Addr).add n = ⟨b, o + n, none⟩ := by unfold Addr.add; split <;> simp_all
noncomputable def datFields : Array Field := match Try.prog.underlying 58 with | some (.struct fs) => fs | _ => #[]
theorem dat_struct : Try.prog.underlying 58 = some (.struct datFields) := by kernel_rfl
theorem dat_cells : Try.prog.cellsOf 58 = 5 := by kernel_rfl
theorem dat_fields : (datFields.map fun f => (f.type, f.offset, Try.prog.cellsOf f.type)) = #[(56, 0, 1), (2, 1, 1), (9, 2, 1), (23, 3, 1), (4, 4, 1)] := by kernel_rfl
theorem dat_field (i t o : Nat) (h : #[((56 : Nat), (0 : Nat), (1 : Nat)), (2, 1, 1), (9, 2, 1), (23, 3, 1), (4, 4, 1)][i]? = some (t, o, 1)) : ∃ f : Field, datFields[i]? = some f ∧ f.type = t ∧ f.offset = o ∧ Try.prog.cellsOf f.type = 1 := by
  have h1 := congrArg (fun a => a[i]?) dat_fields
  simp only [Array.getElem?_map] at h1
  rw [h] at h1
  cases hf : datFields[i]? with
  | none => rw [hf] at h1; simp at h1
  | some f =>
    rw [hf] at h1
    simp only [Option.map_some, Option.some.injEq, Prod.mk.injEq] at h1
    exact ⟨f, rfl, h1.1, h1.2.1, h1.2.2⟩
section
variable {H : Type} {enc : TypeId × Value → H} {W : World}
set_option maxRecDepth 100000 in
/-- A datum's five cells. -/
theorem open_dat {fuel : Nat} {cs : List Value} {x : DataW H × List MemPlace} (h : DataW.trod enc Try.prog W 0 (fun _ => true) true fuel 58 cs = some x) :
    ∃ n k m t kv dot y, fuel = n + 1 ∧ cs = [.int .u8 k, .int .i64 m, .string t, kv, .bool dot] ∧ t.size ≤ maxLen ∧ DataW.trod enc Try.prog W 0 (fun _ => true) true n 23 [kv] = some y := by
  obtain ⟨xs, n, hn, -, hl, hxl, hf⟩ := DataW.trod_struct dat_struct h
  have hsz : datFields.size = 5 := by
    have := congrArg Array.size dat_fields
    rw [Array.size_map] at this
    exact this
  rw [dat_cells] at hl
  rw [hsz] at hxl
  match cs, hl with
  | [c0, c1, c2, c3, c4], _ =>
    obtain ⟨f0, g0, a0, b0, d0⟩ := dat_field 0 56 0 rfl
    obtain ⟨f1, g1, a1, b1, d1⟩ := dat_field 1 2 1 rfl
    obtain ⟨f2, g2, a2, b2, d2⟩ := dat_field 2 9 2 rfl
    obtain ⟨f3, g3, a3, b3, d3⟩ := dat_field 3 23 3 rfl
    obtain ⟨f4, g4, a4, b4, d4⟩ := dat_field 4 4 4 rfl
    have h0 := hf 0 f0 g0
    have h1 := hf 1 f1 g1
    have h2 := hf 2 f2 g2
    have h3 := hf 3 f3 g3
    have h4 := hf 4 f4 g4
    rw [d0, b0, a0, List.getElem?_eq_getElem (by omega)] at h0
    rw [d1, b1, a1, List.getElem?_eq_getElem (by omega)] at h1
    rw [d2, b2, a2, List.getElem?_eq_getElem (by omega)] at h2
    rw [d3, b3, a3, List.getElem?_eq_getElem (by omega)] at h3
    rw [d4, b4, a4, List.getElem?_eq_getElem (by omega)] at h4
    simp only [List.drop_zero, List.drop_succ_cons, List.take_succ_cons, List.take_zero] at h0 h1 h2 h3 h4
    obtain ⟨k, e0, -⟩ := DataW.trod_int Try.underlying56 h0
    obtain ⟨m, e1, -⟩ := DataW.trod_int Try.underlying2 h1
    obtain ⟨t, e2, -, ht⟩ := DataW.trod_string Try.underlying9 h2
    obtain ⟨dot, e4, -⟩ := DataW.trod_bool Try.underlying4 h4
    simp only [List.cons.injEq, and_true] at e0 e1 e2 e4
    subst e0 e1 e2 e4
    exact ⟨n, k, m, t, c3, dot, _, hn, rfl, ht, h3⟩
/-- A list of data that came in. -/
theorem data_in : ∀ (fuel : Nat) (v : Value) (x : DataW H × List MemPlace), DataW.trod enc Try.prog W 0 (fun _ => true) true fuel 23 [v] = some x → ∃ l, SeesB W v l := by
  intro fuel
  induction fuel using Nat.strongRecOn with
  | ind fuel ih =>
    intro v x h
    rcases DataW.trod_slice Try.underlying23 h with ⟨hcs, -⟩ | ⟨a, len, cap, elems, rest, n, hfn, hcs, -, -, hl, hm, hlen, hel, -⟩
    · simp only [List.cons.injEq, and_true] at hcs
      subst hcs
      exact ⟨[], .mk _ [] (.inl ⟨rfl, none, 0, rfl⟩) (by simp) (by simp) (by simp)⟩
    · simp only [List.cons.injEq, and_true] at hcs
      subst hcs
      have key : ∀ i, ∃ e : El, i < len → (∀ r u, e.cells[r]? = some u → W.cell? (a.add (i * 5 + r)) = some u) ∧ e.d.t.size ≤ maxLen ∧ SeesB W e.kv e.d.kids := by
        intro i
        by_cases hi : i < len
        · have h1 := hel i hi
          rw [List.getElem?_eq_getElem (by omega), dat_cells] at h1
          obtain ⟨cs', hc, ht⟩ := Option.bind_eq_some_iff.1 h1
          obtain ⟨n', k, m, t, kv, dot, y, hn', rfl, hts, hk⟩ := open_dat ht
          obtain ⟨l, hs⟩ := ih n' (by omega) kv y hk
          obtain ⟨_, hcl, hat⟩ := World.cells?_some hc
          refine ⟨⟨.mk k m t l dot, kv, []⟩, fun _ => ⟨fun r u hu => ?_, hts, hs⟩⟩
          have hr : r < 5 := by
            have := (List.getElem?_eq_some_iff.1 hu).1
            exact this
          have h2 := hat r hr
          rw [← Go.Deep.add_add, h2]
          exact hu
        · exact ⟨⟨zDat, .slice none 0 0, []⟩, fun h => absurd h hi⟩
      obtain ⟨f, hf⟩ := Classical.axiomOfChoice key
      have hcells : ∀ j u, (elCells ((List.range len).map f))[j]? = some u → W.cell? (a.add j) = some u := by
        intro j u hu
        have hj : j < (elCells ((List.range len).map f)).length := (List.getElem?_eq_some_iff.1 hu).1
        rw [elCells_length, List.length_map, List.length_range] at hj
        have h1 : j / 5 < len := by omega
        have h2 := elCells_get ((List.range len).map f) (j / 5) (by simpa using h1) (j % 5) (by omega)
        rw [show j / 5 * 5 + j % 5 = j by omega, hu] at h2
        have h3 := (hf (j / 5) h1).1 (j % 5) u (by rw [h2]; simp)
        rw [show j / 5 * 5 + j % 5 = j by omega] at h3
        exact h3
      refine ⟨((List.range len).map f).map El.d, .mk _ _ ?_ (by simp; omega) ?_ ?_⟩
      · by_cases h0 : len = 0
        · subst h0; exact .inl ⟨rfl, _, _, rfl⟩
        · have hsp : a.spot = none := by
            have h1 := (hf 0 (by omega)).1 0 _ rfl
            have h2 : a.add (0 * 5 + 0) = a := by simp [Addr.add]
            rw [h2] at h1
            exact spot_none h1
          obtain ⟨b, o, s⟩ := a
          simp only at hsp
          subst hsp
          have h1 := (hf 0 (by omega)).1 0 _ rfl
          refine .inr ⟨b, o, cap, by simp, trivial, World.block_lt_of_cell? W _ h1, fun j u hj => ?_⟩
          have := hcells j u hj
          rw [addr_add] at this
          exact this
      · intro e he
        obtain ⟨i, hi, rfl⟩ := List.mem_map.1 he
        exact (hf i (List.mem_range.1 hi)).2.1
      · intro e he
        obtain ⟨i, hi, rfl⟩ := List.mem_map.1 he
        exact (hf i (List.mem_range.1 hi)).2.2
end

mutual
/-- How much of a room a datum leaves. -/
def leftD : Dat → Int → Int → Int
  | .mk _ _ t l _, r, dep => if 5000 < dep then -1 else leftL l (r - 1 - t.size) (dep + 1)
def leftL : List Dat → Int → Int → Int
  | [], r, _ => r
  | d :: l, r, dep => if r < 0 then r else leftL l (leftD d r dep) dep
end
mutual
def Dat.wgt : Dat → Nat
  | .mk _ _ t l _ => 1 + t.size + wgtL l
def wgtL : List Dat → Nat
  | [] => 0
  | d :: l => d.wgt + wgtL l
end
theorem leftL_neg {l : List Dat} {r dep : Int} (h : r < 0) : leftL l r dep = r := by
  cases l with
  | nil => rfl
  | cons d l => rw [leftL, if_pos h]
mutual
theorem leftD_le : ∀ (d : Dat) (r dep : Int), -1 ≤ r → leftD d r dep ≤ r
  | .mk _ _ t l _, r, dep, h => by
    rw [leftD]
    split
    · omega
    · have := leftL_le l (r - 1 - t.size) (dep + 1)
      omega
theorem leftL_le : ∀ (l : List Dat) (r dep : Int), leftL l r dep ≤ r
  | [], r, dep => Int.le_refl _
  | d :: l, r, dep => by
    rw [leftL]
    split
    · omega
    · have h1 := leftD_le d r dep (by omega)
      have h2 := leftL_le l (leftD d r dep) dep
      omega
end
mutual
theorem leftD_ok : ∀ (d : Dat) (r dep : Int), 0 ≤ dep → 0 ≤ leftD d r dep → leftD d r dep + d.wgt ≤ r ∧ dep + d.hgt ≤ 5001
  | .mk _ _ t l _, r, dep, h0, h => by
    rw [leftD] at h ⊢
    by_cases hd : 5000 < dep
    · rw [if_pos hd] at h; omega
    · rw [if_neg hd] at h ⊢
      obtain ⟨h1, h2⟩ := leftL_ok l _ _ (by omega) h
      rw [Dat.wgt, Dat.hgt]
      refine ⟨by omega, ?_⟩
      rcases h2 with rfl | h2
      · rw [hgtL]; omega
      · omega
theorem leftL_ok : ∀ (l : List Dat) (r dep : Int), 0 ≤ dep → 0 ≤ leftL l r dep → leftL l r dep + wgtL l ≤ r ∧ (l = [] ∨ dep + hgtL l ≤ 5001)
  | [], r, dep, _, h => ⟨by rw [leftL, wgtL]; omega, .inl rfl⟩
  | d :: l, r, dep, h0, h => by
    rw [leftL] at h ⊢
    by_cases hr : r < 0
    · rw [if_pos hr] at h; omega
    · rw [if_neg hr] at h ⊢
      have hle := leftL_le l (leftD d r dep) dep
      obtain ⟨h1, h2⟩ := leftD_ok d r dep h0 (by omega)
      obtain ⟨h3, h4⟩ := leftL_ok l _ dep h0 h
      rw [wgtL, hgtL]
      refine ⟨by omega, .inr ?_⟩
      rcases h4 with rfl | h4
      · rw [hgtL]; omega
      · omega
end
mutual
theorem many_wgt : ∀ d : Dat, d.many ≤ d.wgt
  | .mk _ _ t l _ => by
    have := manyL_wgt l
    rw [Dat.many, Dat.wgt]; omega
theorem manyL_wgt : ∀ l : List Dat, manyL l ≤ wgtL l
  | [] => Nat.le_refl _
  | d :: l => by
    have h1 := many_wgt d
    have h2 := manyL_wgt l
    rw [manyL, wgtL]; omega
end
mutual
theorem wee_wgt : ∀ d : Dat, d.wgt ≤ 1000000 → d.wee
  | .mk _ _ t l _, h => by
    rw [Dat.wgt] at h
    rw [Dat.wee]
    exact ⟨by unfold Small; omega, weeL_wgt l (by omega)⟩
theorem weeL_wgt : ∀ l : List Dat, wgtL l ≤ 1000000 → weeL l
  | [], _ => by rw [weeL]; trivial
  | d :: l, h => by
    rw [wgtL] at h
    rw [weeL]
    exact ⟨wee_wgt d (by omega), weeL_wgt l (by omega)⟩
end
set_option maxHeartbeats 4000000 in
set_option maxRecDepth 20000 in
theorem left_calls : ∀ (d : Dat) (kv : Value) (w : World) (r dep : Int), SeesB w kv d.kids → d.t.size ≤ maxLen → 0 ≤ r → r ≤ 200000 → 0 ≤ dep → dep ≤ 5001 →
    Calls Try.prog 73 #[datV d kv, .int .i64 r, .int .i64 dep] w fun e w' => e = .returned (.int .i64 (leftD d r dep)) ∧ New w w' := by
  intro d
  induction d using Dat.ind with
  | h k n t kids dot ih =>
    intro kv w r dep hs ht hr0 hr1 hd0 hd1
    simp only [Dat.kids, Dat.t] at hs ht
    obtain ⟨es, rfl, hseen, hn, hts, hks⟩ := hs.inv
    obtain ⟨A, c, rfl⟩ := hseen.form
    unfold datV
    simp only [Dat.k, Dat.n, Dat.t, Dat.dot]
    unfold maxLen at ht hn
    have hbx := heap_alloc_new w (.cells #[.int .u8 k, .int .i64 n, .string t, .slice A es.length c, .bool dot] 58)
    have hup : New w (w.alloc (.cells #[.int .u8 k, .int .i64 n, .string t, .slice A es.length c, .bool dot] 58)) := (Upd.refl (fun _ => False) w).alloc _
    obtain ⟨⟨a0, a1, a2, a3, a4⟩, af⟩ := blk5 hbx
    have w1 : IntKind.i64.wrap (r - 1) = r - 1 := IntWalk.i64_in _ (by omega)
    have w2 : IntKind.i64.wrap (r - 1 - t.size) = r - 1 - t.size := IntWalk.i64_in _ (by omega)
    have w3 : IntKind.i64.wrap (dep + 1) = dep + 1 := IntWalk.i64_in _ (by omega)
    have HN := Lib.hid hup
    have HB := Lib.hid hbx
    have HS := Lib.hid (hseen.new hup)
    have HK := Lib.hid (fun e he => (hks e he).new hup)
    have HTS := Lib.hid hts
    have HIH := Lib.hid ih
    have hnI : (es.length : Int) ≤ 9223372036854775807 := by omega
    clear hs hseen hks hts ih hbx hup hn
    by_cases hd : 5000 < dep
    · rw [leftD, if_pos hd]
      go_enter Try.func73, Try.ntmps73
      go_wp2_with fail
      go_ret
      exact ⟨rfl, HN.out⟩
    · have hd2 : ¬ (5000 < dep) := hd
      rw [leftD, if_neg hd]
      generalize hR : leftL (es.map El.d) (r - 1 - t.size) (dep + 1) = R
      have HR := Lib.hid hR
      have HT := Lib.hid (show -9223372036854775808 ≤ r - 1 - (t.size : Int) ∧ r - 1 - (t.size : Int) ≤ 200000 by omega)
      clear hR
      go_enter Try.func73, Try.ntmps73
      go_wp2_with fail
      generalize w.alloc (.cells #[.int .u8 k, .int .i64 n, .string t, .slice A es.length c, .bool dot] 58) = W at *
      clear a0 a1 a2 a3 a4 af w1
      go_loopw [1, 7] (fun rv i wr => New W wr ∧ ∃ (j : Nat) (q : Int), j ≤ es.length ∧ i = .int .i64 j ∧ rv = .int .i64 q ∧ q ≤ 200000 ∧ leftL ((es.map El.d).drop j) q (dep + 1) = R) (fun _ i _ => es.length - (intOf i).toNat)
      case atStart => exact ⟨Upd.refl (fun _ => False) W, 0, r - 1 - t.size, Nat.zero_le _, rfl, (by first | rfl | simp [w2]), HT.out.2, HR.out⟩
      case round =>
        obtain ⟨hn, j, q, hj, rfl, rfl, hq, hl⟩ := hrel
        have HN2 := Lib.hid hn
        have HL := Lib.hid hl
        obtain ⟨⟨a0, a1, a2, a3, a4⟩, af⟩ := blk5 (hn.heap HB.out (fun x => x))
        clear hn hl w2
        by_cases hjl : j < es.length
        · have j0 : (0 : Int) ≤ j := by omega
          have j1 : (j : Int) < es.length := by omega
          have j3 : IntKind.i64.wrap ((j : Int) + 1) = (j : Int) + 1 := IntWalk.i64_in _ (by omega)
          by_cases hq0 : 0 ≤ q
          · obtain ⟨g, o, cc, hA, hG, hlt, x0, x1, x2, x3, x4⟩ := (HS.out.new HN2.out).at j hjl
            simp only [Value.slice.injEq] at hA
            obtain ⟨rfl, -, -⟩ := hA
            have hmem := List.getElem_mem hjl
            have hkk := (HK.out _ hmem).new HN2.out
            obtain ⟨es3, hes3, hseen3, -⟩ := hkk.inv
            obtain ⟨A4, c4, hkv⟩ := hseen3.form
            have hcall := HIH.out es[j].d (List.mem_map.2 ⟨_, hmem, rfl⟩) es[j].kv wr q (dep + 1) hkk (HTS.out _ hmem) hq0 hq (by omega) (by omega)
            have hdrop : (es.map El.d).drop j = es[j].d :: (es.map El.d).drop (j + 1) := by
              rw [List.drop_eq_getElem_cons (by simpa using hjl)]; simp
            have hst := HL.out
            rw [hdrop, leftL, if_neg (by omega)] at hst
            have hle := leftD_le es[j].d q (dep + 1) (by omega)
            have HST := Lib.hid hst
            have HLE := Lib.hid hle
            have HC := Lib.hid hcall
            generalize hV : es[j] = X at *
            obtain ⟨xd, xkv, xbs⟩ := X
            simp only at *
            subst hkv
            clear hkk hes3 hseen3 hcall hdrop hst hle hmem hV
            unfold datV at HC
            go_wp2_with fail
            refine HC.out.mono ?_
            rintro e w5 ⟨rfl, hu5⟩
            have HU5 := Lib.hid hu5
            clear hu5
            go_wp2_with fail
            go_roundw
            case measure => simp [intOf]; omega
            case rel => exact ⟨HN2.out.trans HU5.out, j + 1, _, by omega, by simp, rfl, by have := HLE.out; omega, HST.out⟩
          · have hq1 : ¬ (0 ≤ q) := hq0
            have hl := HL.out
            rw [leftL_neg (by omega)] at hl
            subst hl
            go_wp2_with fail
            go_ret
            exact ⟨rfl, HN.out.trans HN2.out⟩
        · have j1 : ¬ (j : Int) < es.length := by omega
          have hl := HL.out
          rw [List.drop_eq_nil_of_le (by simp; omega), leftL] at hl
          subst hl
          go_wp2_with fail
          go_ret
          exact ⟨rfl, HN.out.trans HN2.out⟩
set_option maxHeartbeats 4000000 in
set_option maxRecDepth 20000 in
theorem much_calls (l : List Dat) (v : Value) (w : World) (hs : SeesB w v l) : Calls Try.prog 20 #[v] w fun e w' => e = .returned (.bool (decide (leftL l 200000 0 < 0))) ∧ New w w' := by
  obtain ⟨es, rfl, hseen, hn, hts, hks⟩ := hs.inv
  obtain ⟨A, c, rfl⟩ := hseen.form
  unfold maxLen at hn
  have HS := Lib.hid hseen
  have HK := Lib.hid hks
  have HTS := Lib.hid hts
  have hnI : (es.length : Int) ≤ 9223372036854775807 := by omega
  clear hs hseen hks hts hn
  generalize hR : leftL (es.map El.d) 200000 0 = R
  have HR := Lib.hid hR
  clear hR
  go_enter Try.func20, Try.ntmps20
  go_wp2_with fail
  go_loopw [3, 4] (fun rv i wr => New w wr ∧ ∃ (j : Nat) (q : Int), j ≤ es.length ∧ i = .int .i64 j ∧ rv = .int .i64 q ∧ q ≤ 200000 ∧ leftL ((es.map El.d).drop j) q 0 = R) (fun _ i _ => es.length - (intOf i).toNat)
  case atStart => exact ⟨Upd.refl (fun _ => False) w, 0, 200000, Nat.zero_le _, rfl, rfl, by omega, HR.out⟩
  case round =>
    obtain ⟨hn, j, q, hj, rfl, rfl, hq, hl⟩ := hrel
    have HN2 := Lib.hid hn
    have HL := Lib.hid hl
    clear hn hl
    by_cases hjl : j < es.length
    · have j0 : (0 : Int) ≤ j := by omega
      have j1 : (j : Int) < es.length := by omega
      have j3 : IntKind.i64.wrap ((j : Int) + 1) = (j : Int) + 1 := IntWalk.i64_in _ (by omega)
      by_cases hq0 : 0 ≤ q
      · obtain ⟨g, o, cc, hA, hG, hlt, x0, x1, x2, x3, x4⟩ := (HS.out.new HN2.out).at j hjl
        simp only [Value.slice.injEq] at hA
        obtain ⟨rfl, -, -⟩ := hA
        have hmem := List.getElem_mem hjl
        have hkk := (HK.out _ hmem).new HN2.out
        obtain ⟨es3, hes3, hseen3, -⟩ := hkk.inv
        obtain ⟨A4, c4, hkv⟩ := hseen3.form
        have hcall := left_calls es[j].d es[j].kv wr q 0 hkk (HTS.out _ hmem) hq0 hq (by omega) (by omega)
        have hdrop : (es.map El.d).drop j = es[j].d :: (es.map El.d).drop (j + 1) := by
          rw [List.drop_eq_getElem_cons (by simpa using hjl)]; simp
        have hst := HL.out
        rw [hdrop, leftL, if_neg (by omega)] at hst
        have hle := leftD_le es[j].d q 0 (by omega)
        have HST := Lib.hid hst
        have HLE := Lib.hid hle
        have HC := Lib.hid hcall
        generalize hV : es[j] = X at *
        obtain ⟨xd, xkv, xbs⟩ := X
        simp only at *
        subst hkv
        clear hkk hes3 hseen3 hcall hdrop hst hle hmem hV
        unfold datV at HC
        go_wp2_with fail
        refine HC.out.mono ?_
        rintro e w5 ⟨rfl, hu5⟩
        have HU5 := Lib.hid hu5
        clear hu5
        go_wp2_with fail
        go_roundw
        case measure => simp [intOf]; omega
        case rel => exact ⟨HN2.out.trans HU5.out, j + 1, _, by omega, by simp, rfl, by have := HLE.out; omega, HST.out⟩
      · have hq1 : ¬ (0 ≤ q) := hq0
        have hl := HL.out
        rw [leftL_neg (by omega)] at hl
        subst hl
        go_wp2_with fail
        go_ret
        exact ⟨rfl, HN2.out⟩
    · have j1 : ¬ (j : Int) < es.length := by omega
      have hl := HL.out
      rw [List.drop_eq_nil_of_le (by simp; omega), leftL] at hl
      subst hl
      go_wp2_with fail
      go_ret
      exact ⟨rfl, HN2.out⟩
/-- What is not too much. -/
theorem much_not {l : List Dat} (h : ¬ leftL l 200000 0 < 0) : manyL l ≤ 200000 ∧ weeL l ∧ hgtL l ≤ 5001 ∧ wgtL l ≤ 200000 := by
  obtain ⟨h1, h2⟩ := leftL_ok l 200000 0 (by omega) (by omega)
  have h3 := manyL_wgt l
  refine ⟨by omega, weeL_wgt l (by omega), ?_, by omega⟩
  rcases h2 with rfl | h2
  · rw [hgtL]; omega
  · omega
end Go.Proofs.Ytnnjhafjcdjobaa
