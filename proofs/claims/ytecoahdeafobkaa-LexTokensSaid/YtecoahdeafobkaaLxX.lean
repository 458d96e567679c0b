/- Lex: the law LexSpaced, where the text has tokens. -/
import Derived.Test.YtecoahdeafobkaaLxW
import Derived.Outline
namespace Go.Proofs.Ytecoahdeafobkaa
open Go.RowKit
set_option linter.unusedVariables false
set_option linter.unusedSimpArgs false

def bcells (l : List UInt8) : List Value := l.map fun b => Value.int .u8 (b.toNat : Int)
theorem own_next {w : World} {B : Nat} {v : Value} {X : List UInt8} {b : ByteArray} (h : w.ownsRow B 5 1 v (X.length + b.size) (bcells X ++ Lib.strCells b)) : w.ownsRow B 5 1 v (X ++ b.data.toList).length (bcells (X ++ b.data.toList)) := by
  have e1 : bcells (X ++ b.data.toList) = bcells X ++ Lib.strCells b := by simp [bcells, Lib.strCells]
  have e2 : (X ++ b.data.toList).length = X.length + b.size := by rw [List.length_append, ← Lib.size_eq]
  rw [e1, e2]; exact h
theorem mk_mem (s : ByteArray) (gs : List (List UInt8)) (L : List Tok) (y : List UInt8 × Tok × Nat) (hy : y ∈ mk s gs L) : y.1 ∈ gs := by
  obtain ⟨i, hi⟩ := List.getElem?_of_mem hy
  rw [mk, List.getElem?_zipWith_eq_some] at hi
  obtain ⟨a, b, h1, h2, h3⟩ := hi
  rw [← h3]
  exact List.mem_of_getElem? h1
theorem mk_all (s : ByteArray) (L : List Tok) (gs : List (List UInt8)) (m : Nat) (hm : L.length = m) {k : Nat} (hg : gs.length = k) (hk : k = m) (hp : Placed s L)
    (hR : ∀ i x, L[i]? = some x → x.k ≠ 9 → ∃ p y, Reads s x.a p x ∧ L[i + 1]? = some y ∧ p ≤ y.a ∧ y.a ≤ s.size ∧ (p = y.a ∨ at' s p ≤ 32 ∨ at' s p = 59)) :
    mk s gs L ≠ [] ∧ (∀ i y, (mk s gs L)[i]? = some y → (i + 1 < (mk s gs L).length → Reads s y.2.1.a y.2.2 y.2.1) ∧ (i + 1 = (mk s gs L).length → y.2.1 = ⟨9, ⟨#[]⟩, 0, s.size⟩)) ∧ (mk s gs L).map (fun y => y.2.1.to 0) = L.map (·.to 0) := by
  have hl : (mk s gs L).length = m := by simp [mk]; omega
  have h0 := hp.pos
  refine ⟨fun e => by rw [e] at hl; simp at hl; omega, fun i y hy => ?_, ?_⟩
  · rw [hl]
    rw [mk, List.getElem?_zipWith_eq_some] at hy
    obtain ⟨a, b, h1, h2, h3⟩ := hy
    subst h3
    refine ⟨fun hi => ?_, fun hi => ?_⟩
    · obtain ⟨x, y, hx, hy, hxy, hk9⟩ := hp.step i (by omega)
      rw [hx] at h2
      injection h2 with h2
      subst h2
      obtain ⟨p, _, hr, _⟩ := hR i x hx hk9
      have := hr.own_end
      rw [← this]; exact hr
    · have := hp.last
      rw [show L.length - 1 = i from by omega, h2] at this
      injection this
  · refine List.ext_getElem? fun i => ?_
    simp only [mk, List.getElem?_map, List.getElem?_zipWith]
    rcases Nat.lt_or_ge i m with hi | hi
    · rw [List.getElem?_eq_getElem (show i < gs.length by omega), List.getElem?_eq_getElem (show i < L.length by omega)]; rfl
    · rw [List.getElem?_eq_none (show gs.length ≤ i by omega), List.getElem?_eq_none (show L.length ≤ i by omega)]; rfl
theorem spread_pos (s : ByteArray) (L : List Tok) (gs : List (List UInt8)) (m : Nat) (h0 : 0 < m) (hm : L.length = m) (hg : 0 < gs.length) (hgap : ∀ g ∈ gs, IsGap g) : 0 < (spread s (mk s gs L)).length := by
  cases gs with
  | nil => simp at hg
  | cons g gs =>
    cases L with
    | nil => simp at hm; omega
    | cons x L =>
      obtain ⟨z, l, hz, _⟩ := (hgap g (by simp)).2
      simp [mk, spread, hz]
theorem gap_cells {w : World} {B : Nat} (h : w.heap[B]? = some (.cells #[.string ⟨#[32]⟩, .string ⟨#[10]⟩, .string ⟨#[9, 32, 13]⟩, .string ⟨#[32, 59, 32, 97, 32, 99, 111, 109, 109, 101, 110, 116, 32, 40, 32, 39, 10]⟩, .string ⟨#[10, 59, 10]⟩, .string ⟨#[32]⟩] 9 (0, 0))) :
    ∀ i, i < 6 → w.cell? ⟨B, i, none⟩ = some (.string ⟨(gapOf i).toArray⟩) := by
  intro i hi
  rw [cell_of_row w B i _ 9 (0, 0) h]
  rcases (by omega : i = 0 ∨ i = 1 ∨ i = 2 ∨ i = 3 ∨ i = 4 ∨ i = 5) with rfl | rfl | rfl | rfl | rfl | rfl <;> rfl

set_option maxHeartbeats 4000000 in
theorem spaced_good (s : ByteArray) (A : Option Addr) (n cap : Nat) (hs : Small s) (h : ¬ tokErr s) (hb : decide ((20000 : Int) < s.size) = false) (w : World) (hA : IsInts w A n) :
    Calls Try.prog 6 #[.string s, .slice A n cap] w fun e w' => e = .returned (.bool true) ∧ New w w' := by
  have hsz := hs.le
  have hgood := tokens_good s hs h
  obtain ⟨-, h0⟩ := tokErr_not h
  have hP := placed_of s h0
  have hlen := toks_len s _ 0 rfl (Nat.zero_le _)
  have hR := toks_reads s h0
  have hs2 : (s.size : Int) ≤ 20000 := by simpa using hb
  clear h h0
  generalize hL : (toks s 0).1 = L at *
  clear hL
  generalize hm : L.length = m at *
  have hmi : (m : Int) ≤ 1048577 := by omega
  have hmi2 : (m : Int) ≤ 20001 := by omega
  have HR := Lib.hid hR
  have HP := Lib.hid hP
  have HM := Lib.hid hm
  have HG := Lib.hid hgood
  have HA := Lib.hid hA
  have hn := hA.1
  have HS := Lib.hid hs2
  have hm0 := hP.pos
  rw [hm] at hm0
  clear hR hP hm hgood hlen hA hs2
  obtain ⟨i5, hi5, hz5, hs5, hb5⟩ := info_parts info5
  go_enter Try.func6, Try.ntmps6
  go_wp2_with (first
    | (go_at_call 9; refine (works_calls _).mono ?_; rintro e w1 ⟨rfl, hu1⟩; have HU1 := Lib.hid hu1; clear hu1)
    | (go_at_call 12; refine (HG.out _).mono ?_; rintro e w2 ⟨g, cap, rfl, hu2, ht2, hg2⟩; have HU2 := Lib.hid (HU1.out.trans hu2); have HT2 := Lib.hid ht2; clear hu2 ht2 hg2)
    | (go_at_call 13; refine (placed_calls s hs g m cap L _ hmi HM.out HT2.out HP.out).mono ?_; rintro e w3 ⟨rfl, hu3⟩; have HU3 := Lib.hid (HU2.out.trans hu3); have HT3 := Lib.hid (HT2.out.new hu3); clear hu3))
  have hbl := gap_cells (heap_alloc_new w3 _)
  have HBL := Lib.hid hbl
  have HW := Lib.hid (HU3.out.alloc (.cells #[.string ⟨#[32]⟩, .string ⟨#[10]⟩, .string ⟨#[9, 32, 13]⟩, .string ⟨#[32, 59, 32, 97, 32, 99, 111, 109, 109, 101, 110, 116, 32, 40, 32, 39, 10]⟩, .string ⟨#[10, 59, 10]⟩, .string ⟨#[32]⟩] 9))
  have HT5 := Lib.hid (HT3.out.new ((Upd.refl (fun _ => False) w3).alloc (.cells #[.string ⟨#[32]⟩, .string ⟨#[10]⟩, .string ⟨#[9, 32, 13]⟩, .string ⟨#[32, 59, 32, 97, 32, 99, 111, 109, 109, 101, 110, 116, 32, 40, 32, 39, 10]⟩, .string ⟨#[10, 59, 10]⟩, .string ⟨#[32]⟩] 9)))
  have hbz : w3.heap.size + 1 = (w3.alloc (.cells #[.string ⟨#[32]⟩, .string ⟨#[10]⟩, .string ⟨#[9, 32, 13]⟩, .string ⟨#[32, 59, 32, 97, 32, 99, 111, 109, 109, 101, 110, 116, 32, 40, 32, 39, 10]⟩, .string ⟨#[10, 59, 10]⟩, .string ⟨#[32]⟩] 9)).heap.size := by simp
  generalize w3.alloc (.cells #[.string ⟨#[32]⟩, .string ⟨#[10]⟩, .string ⟨#[9, 32, 13]⟩, .string ⟨#[32, 59, 32, 97, 32, 99, 111, 109, 109, 101, 110, 116, 32, 40, 32, 39, 10]⟩, .string ⟨#[10, 59, 10]⟩, .string ⟨#[32]⟩] 9) = wb at *
  have HBZ := Lib.hid hbz
  clear hbl hbz
  go_loopw [11, 12] (fun v i wr => ∃ (k : Nat) (gs : List (List UInt8)), k ≤ m ∧ i = .int .i64 k ∧ New wb wr ∧ gs.length = k ∧ (∀ g ∈ gs, IsGap g ∧ g.length ≤ 18) ∧ wr.ownsRow (w3.heap.size + 1) 5 1 v (spread s (mk s gs L)).length (bcells (spread s (mk s gs L)))) (fun v i _ => m - (intOf i).toNat)
  case atStart => exact ⟨0, [], Nat.zero_le _, rfl, Upd.refl _ _, rfl, (by intro g hg; simp at hg), ⟨rfl, .inl ⟨rfl, rfl⟩⟩⟩
  case round =>
    obtain ⟨k, gs, hk, rfl, hnew, hgs, hgaps, hown⟩ := hrel
    have HN := Lib.hid hnew
    have HGS := Lib.hid hgs
    have HGP := Lib.hid hgaps
    have HO := Lib.hid hown
    clear hnew hgs hgaps hown
    have i0 : (0 : Int) ≤ k := by omega
    by_cases hlt : k < m
    · have i1 : (k : Int) < m := by omega
      have hgo := HO.out
      have hsl : (spread s (mk s gs L)).length ≤ 20001 * 20018 := by
        have h1 := spread_le s (mk s gs L) (fun y hy => by
          have : y.1 ∈ gs := by
            obtain ⟨i, hi⟩ := List.getElem?_of_mem hy
            rw [mk, List.getElem?_zipWith_eq_some] at hi
            obtain ⟨a, b, h1, h2, h3⟩ := hi
            rw [← h3]
            exact List.mem_of_getElem? h1
          exact (HGP.out _ this).2)
        have h2 : (mk s gs L).length ≤ 20001 := by
          have := HGS.out
          simp only [mk, List.length_zipWith]
          omega
        have h3 : s.size ≤ 20000 := by have := HS.out; omega
        exact Nat.le_trans h1 (Nat.mul_le_mul h2 (by omega))
      have HSL := Lib.hid hsl
      clear hsl
      have HTR := Lib.hid (HT5.out.new HN.out)
      have hwz := HN.out.size
      have hbz := HBZ.out
      have tail : ∀ j : Nat, j < 6 → True := fun _ _ => trivial
      clear hwz hbz tail
      by_cases hkn : k < n
      · obtain ⟨b, o, z, rfl, hbl, hcell⟩ := HA.out.2 k hkn
        have hz := HW.out.cell hcell (fun x => x)
        have hz2 := HN.out.cell hz (fun x => x)
        clear hcell hz hbl
        have i2 : (k : Int) < n := by omega
        by_cases hz0 : (0 : Int) ≤ z
        · have r0 : (0 : Int) ≤ z % 6 := by omega
          have r1 : z % 6 < 6 := by omega
          go_upto_region 18 with (fail)
          generalize z % 6 = r at *
          obtain ⟨j, rfl⟩ := Int.eq_ofNat_of_zero_le r0
          have hj6 : j < 6 := by omega
          have hbc := HN.out.cell (w := wb) (a := ⟨w3.heap.size, j, none⟩) (HBL.out j hj6) (fun x => x)
          have hg := gapOf_gap j
          have hgs : (⟨(gapOf j).toArray⟩ : ByteArray).size = (gapOf j).length := by rw [Lib.size_eq]
          generalize gapOf j = G at *
          have HG1 := Lib.hid hg
          have HG2 := Lib.hid hgs
          have m1 : (spread s (mk s gs L)).length + (⟨G.toArray⟩ : ByteArray).size ≤ maxLen := by rw [HG2.out]; have := HG1.out.2; have := HSL.out; unfold maxLen; omega
          have m2 : (spread s (mk s gs L)).length + (⟨G.toArray⟩ : ByteArray).size ≤ 140737488355328 := by rw [HG2.out]; have := HG1.out.2; have := HSL.out; omega
          have m3 : w3.heap.size + 1 ≤ wr.heap.size := by have := HN.out.size; have := HBZ.out; omega
          replace m1 := Lib.hid m1
          replace m2 := Lib.hid m2
          replace m3 := Lib.hid m3
          clear hg hgs
          go_upto_region 19 with (at_builtin; refine Lib.wpList_append_own_string _ rfl _ _ 37 9 rfl (w3.heap.size + 1) 5 i5 Try.underlying37 Try.underlying9 hi5 hz5 hs5 hb5 _ _ _ rfl HO.out ⟨G.toArray⟩ rfl m1.out m2.out m3.out ?_; intro v1 w4 ho1 hg1 _)
          have ho4 := own_next ho1
          have HN4 := Lib.hid (HN.out.grown hg1 (fun q hq hl => by have := (own_lt HO.out q hq).1; have := HBZ.out; omega))
          have HO4 := Lib.hid ho4
          have HG4 := Lib.hid (show ∀ q, v1.ownBlock = some q → w3.heap.size + 1 ≤ q ∧ q < w4.heap.size from own_lt ho4)
          have m4 : w3.heap.size + 1 ≤ w4.heap.size := by have := HN4.out.size; have := HBZ.out; omega
          replace m4 := Lib.hid m4
          clear ho1 hg1 ho4 m1 m2 m3 hbc
          by_cases hk1 : k + 1 < m
          · obtain ⟨x, y', hx, hy', hxy, hk9⟩ := HP.out.step k (by rw [HM.out]; exact hk1)
            obtain ⟨p, y, hrd, hy, hpy, hys, hst⟩ := HR.out k x hx hk9
            have hb := bytes_calls s hs g m cap L w4 hmi HM.out (HT5.out.new HN4.out) k p x y hx hy hrd hpy hys hst
            have hsn : spread s (mk s (gs ++ [G]) L) = spread s (mk s gs L) ++ G ++ (s.extract x.a p).data.toList := by
              rw [mk_snoc s gs L G x (by rw [HGS.out]; exact hx), spread_append, ← hrd.own_end]
              simp only [spread, List.append_nil, if_neg hk9, own, List.append_assoc]
            have hbz2 : (s.extract x.a p).size ≤ 20000 := by have := HS.out; rw [ByteArray.size_extract]; omega
            generalize s.extract x.a p = bb at *
            have m5 : (spread s (mk s gs L) ++ G).length + bb.size ≤ maxLen := by have := HG1.out.2; have := HSL.out; rw [List.length_append]; unfold maxLen; omega
            have m6 : (spread s (mk s gs L) ++ G).length + bb.size ≤ 140737488355328 := by have := HG1.out.2; have := HSL.out; rw [List.length_append]; omega
            replace m5 := Lib.hid m5
            replace m6 := Lib.hid m6
            have Hb := Lib.hid hb
            have Hsn := Lib.hid hsn
            have hk1i : (k : Int) + 1 < m := by omega
            clear hb hsn hbz2 hx hy hy' hxy hk9 hrd hpy hys hst
            go_wp2_with (first
              | (go_at_call 14; refine Hb.out.mono ?_; rintro e w4' ⟨rfl, rfl⟩)
              | (at_builtin; refine Lib.wpList_append_own_string _ rfl _ _ 37 9 rfl (w3.heap.size + 1) 5 i5 Try.underlying37 Try.underlying9 hi5 hz5 hs5 hb5 _ _ _ rfl HO4.out bb rfl m5.out m6.out m4.out ?_; intro v2 w5 ho5 hg5 _))
            have HN5 := Lib.hid (HN4.out.grown hg5 (fun q hq hl => by have := (HG4.out q hq).1; have := HBZ.out; omega))
            have HO5 := Lib.hid (own_next ho5)
            clear ho5 hg5
            go_roundw
            case rel =>
              refine ⟨k + 1, gs ++ [G], by omega, by go_num, HN5.out, by simp [HGS.out], ?_, by rw [Hsn.out]; exact HO5.out⟩
              intro g' hg'
              rcases List.mem_append.1 hg' with h | h
              · exact HGP.out g' h
              · simp at h; rw [h]; exact HG1.out
            case measure => simp [intOf]; omega
          · have hk1i : ¬ (k : Int) + 1 < m := by omega
            have hlast := HP.out.last
            rw [HM.out, show m - 1 = k from by omega] at hlast
            have hsn : spread s (mk s (gs ++ [G]) L) = spread s (mk s gs L) ++ G := by
              rw [mk_snoc s gs L G _ (by rw [HGS.out]; exact hlast), spread_append]
              simp [spread]
            have Hsn := Lib.hid hsn
            clear hlast hsn
            go_wp2_with fail
            go_roundw
            case rel =>
              refine ⟨k + 1, gs ++ [G], by omega, by go_num, HN4.out, by simp [HGS.out], ?_, by rw [Hsn.out]; exact HO4.out⟩
              intro g' hg'
              rcases List.mem_append.1 hg' with h | h
              · exact HGP.out g' h
              · simp at h; rw [h]; exact HG1.out
            case measure => simp [intOf]; omega
        · go_upto_region 18 with (fail)
          have hj6 : 0 < 6 := by omega
          have hbc := HN.out.cell (w := wb) (a := ⟨w3.heap.size, 0, none⟩) (HBL.out 0 hj6) (fun x => x)
          have hg := gapOf_gap 0
          have hgs : (⟨(gapOf 0).toArray⟩ : ByteArray).size = (gapOf 0).length := by rw [Lib.size_eq]
          generalize gapOf 0 = G at *
          have HG1 := Lib.hid hg
          have HG2 := Lib.hid hgs
          have m1 : (spread s (mk s gs L)).length + (⟨G.toArray⟩ : ByteArray).size ≤ maxLen := by rw [HG2.out]; have := HG1.out.2; have := HSL.out; unfold maxLen; omega
          have m2 : (spread s (mk s gs L)).length + (⟨G.toArray⟩ : ByteArray).size ≤ 140737488355328 := by rw [HG2.out]; have := HG1.out.2; have := HSL.out; omega
          have m3 : w3.heap.size + 1 ≤ wr.heap.size := by have := HN.out.size; have := HBZ.out; omega
          replace m1 := Lib.hid m1
          replace m2 := Lib.hid m2
          replace m3 := Lib.hid m3
          clear hg hgs
          go_upto_region 19 with (at_builtin; refine Lib.wpList_append_own_string _ rfl _ _ 37 9 rfl (w3.heap.size + 1) 5 i5 Try.underlying37 Try.underlying9 hi5 hz5 hs5 hb5 _ _ _ rfl HO.out ⟨G.toArray⟩ rfl m1.out m2.out m3.out ?_; intro v1 w4 ho1 hg1 _)
          have ho4 := own_next ho1
          have HN4 := Lib.hid (HN.out.grown hg1 (fun q hq hl => by have := (own_lt HO.out q hq).1; have := HBZ.out; omega))
          have HO4 := Lib.hid ho4
          have HG4 := Lib.hid (show ∀ q, v1.ownBlock = some q → w3.heap.size + 1 ≤ q ∧ q < w4.heap.size from own_lt ho4)
          have m4 : w3.heap.size + 1 ≤ w4.heap.size := by have := HN4.out.size; have := HBZ.out; omega
          replace m4 := Lib.hid m4
          clear ho1 hg1 ho4 m1 m2 m3 hbc
          by_cases hk1 : k + 1 < m
          · obtain ⟨x, y', hx, hy', hxy, hk9⟩ := HP.out.step k (by rw [HM.out]; exact hk1)
            obtain ⟨p, y, hrd, hy, hpy, hys, hst⟩ := HR.out k x hx hk9
            have hb := bytes_calls s hs g m cap L w4 hmi HM.out (HT5.out.new HN4.out) k p x y hx hy hrd hpy hys hst
            have hsn : spread s (mk s (gs ++ [G]) L) = spread s (mk s gs L) ++ G ++ (s.extract x.a p).data.toList := by
              rw [mk_snoc s gs L G x (by rw [HGS.out]; exact hx), spread_append, ← hrd.own_end]
              simp only [spread, List.append_nil, if_neg hk9, own, List.append_assoc]
            have hbz2 : (s.extract x.a p).size ≤ 20000 := by have := HS.out; rw [ByteArray.size_extract]; omega
            generalize s.extract x.a p = bb at *
            have m5 : (spread s (mk s gs L) ++ G).length + bb.size ≤ maxLen := by have := HG1.out.2; have := HSL.out; rw [List.length_append]; unfold maxLen; omega
            have m6 : (spread s (mk s gs L) ++ G).length + bb.size ≤ 140737488355328 := by have := HG1.out.2; have := HSL.out; rw [List.length_append]; omega
            replace m5 := Lib.hid m5
            replace m6 := Lib.hid m6
            have Hb := Lib.hid hb
            have Hsn := Lib.hid hsn
            have hk1i : (k : Int) + 1 < m := by omega
            clear hb hsn hbz2 hx hy hy' hxy hk9 hrd hpy hys hst
            go_wp2_with (first
              | (go_at_call 14; refine Hb.out.mono ?_; rintro e w4' ⟨rfl, rfl⟩)
              | (at_builtin; refine Lib.wpList_append_own_string _ rfl _ _ 37 9 rfl (w3.heap.size + 1) 5 i5 Try.underlying37 Try.underlying9 hi5 hz5 hs5 hb5 _ _ _ rfl HO4.out bb rfl m5.out m6.out m4.out ?_; intro v2 w5 ho5 hg5 _))
            have HN5 := Lib.hid (HN4.out.grown hg5 (fun q hq hl => by have := (HG4.out q hq).1; have := HBZ.out; omega))
            have HO5 := Lib.hid (own_next ho5)
            clear ho5 hg5
            go_roundw
            case rel =>
              refine ⟨k + 1, gs ++ [G], by omega, by go_num, HN5.out, by simp [HGS.out], ?_, by rw [Hsn.out]; exact HO5.out⟩
              intro g' hg'
              rcases List.mem_append.1 hg' with h | h
              · exact HGP.out g' h
              · simp at h; rw [h]; exact HG1.out
            case measure => simp [intOf]; omega
          · have hk1i : ¬ (k : Int) + 1 < m := by omega
            have hlast := HP.out.last
            rw [HM.out, show m - 1 = k from by omega] at hlast
            have hsn : spread s (mk s (gs ++ [G]) L) = spread s (mk s gs L) ++ G := by
              rw [mk_snoc s gs L G _ (by rw [HGS.out]; exact hlast), spread_append]
              simp [spread]
            have Hsn := Lib.hid hsn
            clear hlast hsn
            go_wp2_with fail
            go_roundw
            case rel =>
              refine ⟨k + 1, gs ++ [G], by omega, by go_num, HN4.out, by simp [HGS.out], ?_, by rw [Hsn.out]; exact HO4.out⟩
              intro g' hg'
              rcases List.mem_append.1 hg' with h | h
              · exact HGP.out g' h
              · simp at h; rw [h]; exact HG1.out
            case measure => simp [intOf]; omega
      · have i2 : ¬ (k : Int) < n := by omega
        go_upto_region 18 with (fail)
        have hj6 : 0 < 6 := by omega
        have hbc := HN.out.cell (w := wb) (a := ⟨w3.heap.size, 0, none⟩) (HBL.out 0 hj6) (fun x => x)
        have hg := gapOf_gap 0
        have hgs : (⟨(gapOf 0).toArray⟩ : ByteArray).size = (gapOf 0).length := by rw [Lib.size_eq]
        generalize gapOf 0 = G at *
        have HG1 := Lib.hid hg
        have HG2 := Lib.hid hgs
        have m1 : (spread s (mk s gs L)).length + (⟨G.toArray⟩ : ByteArray).size ≤ maxLen := by rw [HG2.out]; have := HG1.out.2; have := HSL.out; unfold maxLen; omega
        have m2 : (spread s (mk s gs L)).length + (⟨G.toArray⟩ : ByteArray).size ≤ 140737488355328 := by rw [HG2.out]; have := HG1.out.2; have := HSL.out; omega
        have m3 : w3.heap.size + 1 ≤ wr.heap.size := by have := HN.out.size; have := HBZ.out; omega
        replace m1 := Lib.hid m1
        replace m2 := Lib.hid m2
        replace m3 := Lib.hid m3
        clear hg hgs
        go_upto_region 19 with (at_builtin; refine Lib.wpList_append_own_string _ rfl _ _ 37 9 rfl (w3.heap.size + 1) 5 i5 Try.underlying37 Try.underlying9 hi5 hz5 hs5 hb5 _ _ _ rfl HO.out ⟨G.toArray⟩ rfl m1.out m2.out m3.out ?_; intro v1 w4 ho1 hg1 _)
        have ho4 := own_next ho1
        have HN4 := Lib.hid (HN.out.grown hg1 (fun q hq hl => by have := (own_lt HO.out q hq).1; have := HBZ.out; omega))
        have HO4 := Lib.hid ho4
        have HG4 := Lib.hid (show ∀ q, v1.ownBlock = some q → w3.heap.size + 1 ≤ q ∧ q < w4.heap.size from own_lt ho4)
        have m4 : w3.heap.size + 1 ≤ w4.heap.size := by have := HN4.out.size; have := HBZ.out; omega
        replace m4 := Lib.hid m4
        clear ho1 hg1 ho4 m1 m2 m3 hbc
        by_cases hk1 : k + 1 < m
        · obtain ⟨x, y', hx, hy', hxy, hk9⟩ := HP.out.step k (by rw [HM.out]; exact hk1)
          obtain ⟨p, y, hrd, hy, hpy, hys, hst⟩ := HR.out k x hx hk9
          have hb := bytes_calls s hs g m cap L w4 hmi HM.out (HT5.out.new HN4.out) k p x y hx hy hrd hpy hys hst
          have hsn : spread s (mk s (gs ++ [G]) L) = spread s (mk s gs L) ++ G ++ (s.extract x.a p).data.toList := by
            rw [mk_snoc s gs L G x (by rw [HGS.out]; exact hx), spread_append, ← hrd.own_end]
            simp only [spread, List.append_nil, if_neg hk9, own, List.append_assoc]
          have hbz2 : (s.extract x.a p).size ≤ 20000 := by have := HS.out; rw [ByteArray.size_extract]; omega
          generalize s.extract x.a p = bb at *
          have m5 : (spread s (mk s gs L) ++ G).length + bb.size ≤ maxLen := by have := HG1.out.2; have := HSL.out; rw [List.length_append]; unfold maxLen; omega
          have m6 : (spread s (mk s gs L) ++ G).length + bb.size ≤ 140737488355328 := by have := HG1.out.2; have := HSL.out; rw [List.length_append]; omega
          replace m5 := Lib.hid m5
          replace m6 := Lib.hid m6
          have Hb := Lib.hid hb
          have Hsn := Lib.hid hsn
          have hk1i : (k : Int) + 1 < m := by omega
          clear hb hsn hbz2 hx hy hy' hxy hk9 hrd hpy hys hst
          go_wp2_with (first
            | (go_at_call 14; refine Hb.out.mono ?_; rintro e w4' ⟨rfl, rfl⟩)
            | (at_builtin; refine Lib.wpList_append_own_string _ rfl _ _ 37 9 rfl (w3.heap.size + 1) 5 i5 Try.underlying37 Try.underlying9 hi5 hz5 hs5 hb5 _ _ _ rfl HO4.out bb rfl m5.out m6.out m4.out ?_; intro v2 w5 ho5 hg5 _))
          have HN5 := Lib.hid (HN4.out.grown hg5 (fun q hq hl => by have := (HG4.out q hq).1; have := HBZ.out; omega))
          have HO5 := Lib.hid (own_next ho5)
          clear ho5 hg5
          go_roundw
          case rel =>
            refine ⟨k + 1, gs ++ [G], by omega, by go_num, HN5.out, by simp [HGS.out], ?_, by rw [Hsn.out]; exact HO5.out⟩
            intro g' hg'
            rcases List.mem_append.1 hg' with h | h
            · exact HGP.out g' h
            · simp at h; rw [h]; exact HG1.out
          case measure => simp [intOf]; omega
        · have hk1i : ¬ (k : Int) + 1 < m := by omega
          have hlast := HP.out.last
          rw [HM.out, show m - 1 = k from by omega] at hlast
          have hsn : spread s (mk s (gs ++ [G]) L) = spread s (mk s gs L) ++ G := by
            rw [mk_snoc s gs L G _ (by rw [HGS.out]; exact hlast), spread_append]
            simp [spread]
          have Hsn := Lib.hid hsn
          clear hlast hsn
          go_wp2_with fail
          go_roundw
          case rel =>
            refine ⟨k + 1, gs ++ [G], by omega, by go_num, HN4.out, by simp [HGS.out], ?_, by rw [Hsn.out]; exact HO4.out⟩
            intro g' hg'
            rcases List.mem_append.1 hg' with h | h
            · exact HGP.out g' h
            · simp at h; rw [h]; exact HG1.out
          case measure => simp [intOf]; omega
    · have i1 : ¬ (k : Int) < m := by omega
      have hkm2 : k = m := by omega
      have hl := mk_all s L gs m HM.out HGS.out hkm2 HP.out HR.out
      have hX0 : 0 < (spread s (mk s gs L)).length := spread_pos s L gs m (by omega) HM.out (by rw [HGS.out]; omega) (fun g hg => (HGP.out g hg).1)
      have hsp := fun T hT => spread_toks s T (mk s gs L) [] hl.1 hT (fun y hy => (HGP.out _ (mk_mem s gs L y hy)).1) hl.2.1
      have hmap := hl.2.2
      rw [hmap] at hsp
      generalize spread s (mk s gs L) = X at *
      have HSP := Lib.hid hsp
      have hown := HO.out
      rcases hown.2 with ⟨_, h0⟩ | ⟨g4, cap4, cur, rfl, hb4, _, _, hc4, _⟩
      · omega
      · have hX0' : 0 ≤ (X.length : Int) := by omega
        clear hl hsp hmap
        by_cases hlong : decide ((65536 : Int) < X.length) = true
        · clear hown
          go_wp2_with fail
          go_ret
          exact ⟨rfl, HW.out.trans HN.out⟩
        · replace hlong : decide ((65536 : Int) < X.length) = false := by simpa using hlong
          have hconv := run_convert_bytes_back (P := Try.prog) wr 37 9 5 ⟨g4, 0, none⟩ cap4 X Try.underlying37 Try.underlying5 Try.underlying9 (fun j hj => own_cells HO.out j _ (by simp [bcells, hj]))
          have hXl : (X.length : Int) ≤ 65536 := by have := of_decide_eq_false hlong; omega
          have hTs : (⟨X.toArray⟩ : ByteArray).size = X.length := by rw [Lib.size_eq]
          have hT : Small ⟨X.toArray⟩ := by unfold Small; rw [hTs]; omega
          obtain ⟨t0, t1⟩ := HSP.out ⟨X.toArray⟩ rfl
          have htg := tokens_good ⟨X.toArray⟩ hT (fun h => by
            rcases h with h | h
            · rw [hTs, hlong] at h; exact absurd h (by simp)
            · exact h t0)
          generalize (toks ⟨X.toArray⟩ 0).1 = M at *
          have hML : M.length = m := by have := congrArg List.length t1; simpa [HM.out] using this
          rw [hML] at htg
          have hMx : ∀ (i : Nat) (x : Tok), L[i]? = some x → ∃ a : Nat, M[i]? = some (⟨x.k, x.t, x.n, a⟩ : Tok) := by
            intro i x hx
            have h1 := congrArg (fun l => l[i]?) t1
            simp only [List.getElem?_map, hx, Option.map_some] at h1
            cases hM : M[i]? with
            | none => rw [hM] at h1; exact absurd h1 (by simp)
            | some z =>
              rw [hM] at h1
              obtain ⟨zk, zt, zn, za⟩ := z
              simp [Tok.to] at h1
              exact ⟨za, by rw [h1.1, h1.2.1, h1.2.2]⟩
          have HTG := Lib.hid htg
          have HMX := Lib.hid hMx
          clear htg hMx t0 t1 hML hT hTs hown hXl HSP
          go_wp2_with (go_at_call 12; refine (HTG.out _).mono ?_; rintro e w6 ⟨g6, cap6, rfl, hu6, ht6, -⟩; have HU6 := Lib.hid (HN.out.trans hu6); have HT6 := Lib.hid ht6; clear hu6 ht6)
          clear hconv
          go_loopw [17] (fun i wq => ∃ q : Nat, q ≤ m ∧ i = .int .i64 q ∧ New w6 wq) (fun i _ => m - (intOf i).toNat)
          case atStart => exact ⟨0, Nat.zero_le _, rfl, Upd.refl _ _⟩
          case round =>
            obtain ⟨q, hq, rfl, hnew⟩ := hrel
            have HQ := Lib.hid hnew
            clear hnew
            by_cases hqm : q < m
            · obtain ⟨x, hx⟩ : ∃ x, L[q]? = some x := ⟨_, List.getElem?_eq_getElem (by rw [HM.out]; exact hqm)⟩
              obtain ⟨a, hx2⟩ := HMX.out q x hx
              obtain ⟨d0, d1, d2, d3⟩ := (HT5.out.new (HU6.out.trans HQ.out)).at_ hx
              obtain ⟨c0, c1, c2, c3⟩ := (HT6.out.new HQ.out).at_ hx2
              obtain ⟨xk, xt, xn, xa⟩ := x
              dsimp only at *
              have j0 : (0 : Int) ≤ q := by omega
              have j1 : (q : Int) < m := by omega
              clear hx hx2
              go_wp2_with fail
              go_region_held3 (fun w' => w'.cell? ⟨g, q * 4, none⟩ = some (.int .u8 xk) ∧ w'.cell? ⟨g, q * 4 + 1, none⟩ = some (.string xt) ∧ w'.cell? ⟨g, q * 4 + 2, none⟩ = some (.int .i64 xn) ∧ w'.cell? ⟨g, q * 4 + 3, none⟩ = some (.int .i64 xa) ∧
                  w'.cell? ⟨g6, q * 4, none⟩ = some (.int .u8 xk) ∧ w'.cell? ⟨g6, q * 4 + 1, none⟩ = some (.string xt) ∧ w'.cell? ⟨g6, q * 4 + 2, none⟩ = some (.int .i64 xn) ∧ w'.cell? ⟨g6, q * 4 + 3, none⟩ = some (.int .i64 a))
                (exact ⟨d0, d1, d2, d3, c0, c1, c2, c3⟩)
                ((go_at_call 15; refine (alike_at _ _ _ _ _ _).mono ?_; rintro e w7 ⟨rfl, hu7⟩; have HU7 := Lib.hid (HQ.out.drew.trans hu7); replace d0 := hu7.cell d0 (fun x => x); replace d1 := hu7.cell d1 (fun x => x); replace d2 := hu7.cell d2 (fun x => x); replace d3 := hu7.cell d3 (fun x => x); replace c0 := hu7.cell c0 (fun x => x); replace c1 := hu7.cell c1 (fun x => x); replace c2 := hu7.cell c2 (fun x => x); replace c3 := hu7.cell c3 (fun x => x); clear hu7))
              all_goals
                go_wp2_with fail
                go_roundw
                case rel => exact ⟨q + 1, by omega, by go_num, HU7.out⟩
                case measure => simp [intOf]; omega
            · have j1 : ¬ (q : Int) < m := by omega
              go_wp2_with fail
              go_ret
              exact ⟨rfl, HW.out.trans (HU6.out.trans HQ.out)⟩
end Go.Proofs.Ytecoahdeafobkaa
