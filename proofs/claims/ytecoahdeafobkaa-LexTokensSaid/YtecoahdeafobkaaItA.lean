/- All: the iterator, for every loop body that keeps boxes of tokens and of the source. -/
import Derived.RangeFuncNested
import Derived.RangeFuncBound
import Derived.RangeFuncCalls
import Derived.RangeFuncLeaves
import Derived.Shelf.Abstract
import Derived.Shelf.RegionOpen
import Derived.WalkKit
import Derived.OwnWalkIn
import Derived.TacticsInMore
import Derived.LoopNIn
import Derived.LoopIn
import Derived.Test.YtecoahdeafobkaaRsC
namespace Go.Proofs.Ytecoahdeafobkaa
open Go.RowKit Go.Shelf
set_option linter.unusedVariables false
set_option linter.unusedSimpArgs false
attribute [local go_sem] Oper.semAt_some

def KeepO (o : Obj) : Prop := (∃ c0 c1 c2 c3, o = .cells #[c0, c1, c2, c3] 34 (0, 0)) ∨ ∃ s, o = .cells #[.string s] 9 (0, 0)
/-- What a round keeps: tokens' boxes, and the source's. -/
def KeepT (W W' : World) : Prop := ∀ (b : Nat) (o : Obj), W.heap[b]? = some o → KeepO o → W'.heap[b]? = some o
theorem KeepT.trans {A B C : World} (h : KeepT A B) (k : KeepT B C) : KeepT A C := fun b o hb ho => k b o (h b o hb ho) ho
theorem KeepT.put {w : World} (W : World) (l : Nat) (o o' : Obj) (_ : w.heap.size ≤ l) (h : W.heap[l]? = some o) (hc : o.isCells = false) (_ : o.isWalk = false) : KeepT W (W.putObj l o') := by
  intro b p hb hp
  have hne : l ≠ b := by
    intro e
    subst e
    rw [h] at hb
    injection hb with hb
    subst hb
    rcases hp with ⟨c0, c1, c2, c3, rfl⟩ | ⟨s, rfl⟩ <;> simp [Obj.isCells] at hc
  exact (World.putObj_heap_other (fun e => hne e.symm)).trans hb
theorem KeepT.new {W W' : World} (h : New W W') : KeepT W W' := fun b o hb _ => h.heap hb (fun x => x)
theorem KeepT.upd {F : Nat → Prop} {W W' : World} (h : Upd F W W') (hF : ∀ b o, F b → W.heap[b]? = some o → ¬ KeepO o) : KeepT W W' := fun b o hb ho => by
  by_cases hf : F b
  · exact absurd ho (hF b o hf hb)
  · exact h.heap hb hf
theorem Upd.grownNone {W W' : World} (h : New W W') : W.grownBy W' none := ⟨h.os, h.tape, h.output, h.size, fun k hk _ => h.block k hk (fun x => x)⟩
theorem allR_toks {s : ByteArray} (hm : ¬ (65536 : Int) < s.size) : allR s = (toks s 0).1 := by rw [allR, if_neg hm]
set_option maxRecDepth 100000 in
set_option maxHeartbeats 4000000 in
theorem iter_in (s : ByteArray) (hs : Small s) (n : Nat) (hn : 1 ≤ n) (l Bn B : Nat) (J Jx : List Tok → World → Prop) (hJ : AbidesFrom B J) (hJx : AbidesFrom B Jx)
    (hY : ∀ pre x W, J pre W → pre.length < (allR s).length → YieldAt Fence.wide (n - 1) Try.prog l #[Tok.v x] W fun e W' =>
      (e = .returned (.bool true) ∧ J (pre ++ [x]) W' ∧ KeepT W W') ∨ (e = .returned (.bool false) ∧ Jx (pre ++ [x]) W'))
    (W : World) (hBn : W.heap[Bn]? = some (.cells #[.string s] 9 (0, 0))) (h0 : J [] W) :
    CallsIn Fence.wide n Try.prog 28 #[.func (.yield l) #[] #[], .pointer (some ⟨Bn, 0, none⟩)] W fun e W' => (∃ v, e = .returned v) ∧
      ((∃ ys, ys = allR s ∧ J ys W') ∨ (∃ pre, pre <+: allR s ∧ Jx pre W')) := by
  have hsz := hs.le
  have cB : W.cell? ⟨Bn, 0, none⟩ = some (.string s) := by simp [World.cell?, hBn]
  have HBN := Lib.hid hBn
  refine callsIn_of_wp Try.func28 rfl trivial ?_ rfl
  simp only [Try.ntmps28, List.size_toArray, List.length_cons, List.length_nil, Nat.reduceAdd, Nat.reduceSub, Array.replicate_succ, Array.replicate_zero, List.push_toArray, List.append_toArray, List.nil_append, List.cons_append]
  by_cases hm : (65536 : Int) < s.size
  · gi_wp2
    refine bodyPost_ret (results_none rfl _ _ _) rfl ?_
    exact ⟨⟨_, rfl⟩, .inl ⟨[], by rw [allR, if_pos hm], h0⟩⟩
  · have HA := Lib.hid (allR_toks hm)
    clear hBn
    gi_wp2
    gi_loopw [3] (fun i wr => ∃ (pre : List Tok) (a : Nat), i = .int .i64 a ∧ a ≤ s.size ∧ (toks s 0).1 = pre ++ (toks s a).1 ∧ J pre wr ∧ wr.heap[Bn]? = some (.cells #[.string s] 9 (0, 0)))
      (fun i wr => s.size - (intOf i).toNat)
    case atStart => exact ⟨[], 0, rfl, Nat.zero_le _, rfl, h0, HBN.out⟩
    case round =>
      obtain ⟨pre, a, rfl, ha, htk, hJs, hbn⟩ := hrel
      have cB : wr.cell? ⟨Bn, 0, none⟩ = some (.string s) := by simp [World.cell?, hbn]
      have hlB := (Array.getElem?_eq_some_iff.1 hbn).1
      have hn0 := next_calls s hs a ha
      obtain ⟨⟨⟨k, t, m, ta⟩, p, er⟩, hr⟩ : ∃ r, nextOf s a = r := ⟨_, rfl⟩
      have Hr := Lib.hid hr
      rw [hr] at hn0
      simp only [Tok.v, tokV] at hn0
      have HN0 := Lib.hid hn0
      have HTK := Lib.hid htk
      have HJS := Lib.hid hJs
      have HBN2 := Lib.hid hbn
      clear hn0 hr htk hJs hbn
      have hB1 := fun (w1 : World) (hu : New wr w1) => ((Upd.refl (fun _ => False) wr).trans hu).alloc (.cells #[.int .u8 k, .string t, .int .i64 m, .int .i64 ta] 34)
      by_cases he : er = 0
      · have hen : (er != 0) = false := by simp [he]
        subst he
        have hlen : pre.length < (allR s).length := by
          rw [HA.out, HTK.out]
          by_cases hk : k = 9
          · rw [toks_end (by rw [Hr.out]) (by rw [Hr.out]; exact hk)]; simp
          · rw [toks_more ha (by rw [Hr.out]) (by rw [Hr.out]; exact hk)]; simp
        have HY := Lib.hid hY
        have HJ := Lib.hid hJ
        have HB1 := Lib.hid hB1
        clear hY hJ hJx hB1 hen
        gi_wp2_with (refine ⟨trivial, ?_⟩; gi_at_call 26; refine (callsIn_wide.2 (HN0.out _)).mono ?_; rintro e w1 ⟨rfl, hu⟩; have HU := Lib.hid hu; obtain ⟨fn, tmps, assign, body, hy, hR⟩ := HY.out pre ⟨k, t, m, ta⟩ (w1.alloc (.cells #[.int .u8 k, .string t, .int .i64 m, .int .i64 ta] 34)) (HJ.out pre wr _ none HJS.out (HB1.out w1 hu).grownNone (fun r e => by cases e)) hlen; simp only [Tok.v, tokV] at hy; clear hu)
        refine hR.mono ?_
        rintro e W3 (⟨rfl, hJ3, hk3⟩ | ⟨rfl, hJx3⟩)
        · have hbox := hk3 w1.heap.size (.cells #[.int .u8 k, .string t, .int .i64 m, .int .i64 ta] 34 (0, 0)) (heap_alloc_new w1 (.cells #[.int .u8 k, .string t, .int .i64 m, .int .i64 ta] 34)) (.inl ⟨_, _, _, _, rfl⟩)
          have hbn3 := hk3 Bn _ ((HB1.out w1 HU.out).heap HBN2.out (fun x => x)) (.inr ⟨s, rfl⟩)
          have cK : W3.cell? ⟨w1.heap.size, 0, none⟩ = some (.int .u8 k) := by simp [World.cell?, hbox]
          have HJ3 := Lib.hid hJ3
          have HB3 := Lib.hid hbn3
          clear hk3 hbox hbn3 hJ3 hy hR
          by_cases hk : k = 9
          · have hk9 : (k == 9) = true := by simpa using hk
            have HK := Lib.hid hk
            clear hk
            gi_wp2
            refine bodyPost_ret (results_none rfl _ _ _) rfl ?_
            refine ⟨⟨_, rfl⟩, .inl ⟨pre ++ [⟨k, t, m, ta⟩], ?_, HJ3.out⟩⟩
            rw [HA.out, HTK.out, toks_end (by rw [Hr.out]) (by rw [Hr.out]; exact HK.out), Hr.out]
          · have hk9 : (k == 9) = false := by simpa using hk
            gi_wp2
            go_roundw
            case rel =>
              have hpl := nextOf_place s a ha (by rw [Hr.out]) (by rw [Hr.out]; exact hk)
              rw [Hr.out] at hpl
              dsimp only at hpl
              refine ⟨pre ++ [⟨k, t, m, ta⟩], p, rfl, hpl.2, ?_, HJ3.out, HB3.out⟩
              rw [HTK.out, toks_more ha (by rw [Hr.out]) (by rw [Hr.out]; exact hk), Hr.out]
              simp
            case measure =>
              have hpl := nextOf_place s a ha (by rw [Hr.out]) (by rw [Hr.out]; exact hk)
              rw [Hr.out] at hpl
              dsimp only at hpl
              simp [intOf]; omega
        · gi_wp2
          refine bodyPost_ret (results_none rfl _ _ _) rfl ?_
          refine ⟨⟨_, rfl⟩, .inr ⟨pre ++ [⟨k, t, m, ta⟩], ?_, hJx3⟩⟩
          rw [HA.out, HTK.out]
          by_cases hk : k = 9
          · rw [toks_end (by rw [Hr.out]) (by rw [Hr.out]; exact hk), Hr.out]; exact List.prefix_refl _
          · rw [toks_more ha (by rw [Hr.out]) (by rw [Hr.out]; exact hk), Hr.out]; exact ⟨(toks s p).1, by simp⟩
      · have hen : (er != 0) = true := by rw [bne_iff_ne]; exact he
        have HE := Lib.hid he
        have HJ := Lib.hid hJ
        have HB1 := Lib.hid hB1
        clear hY hJ hJx hB1 he
        gi_wp2_with (refine ⟨trivial, ?_⟩; gi_at_call 26; refine (callsIn_wide.2 (HN0.out _)).mono ?_; rintro e w1 ⟨rfl, hu⟩; have HU := Lib.hid hu; clear hu)
        refine ⟨fun _ h => (by cases h), ?_⟩
        gi_wp2
        refine bodyPost_ret (results_none rfl _ _ _) rfl ?_
        refine ⟨⟨_, rfl⟩, .inl ⟨pre, ?_, HJ.out pre wr _ none HJS.out (HB1.out w1 HU.out).grownNone (fun r e => by cases e)⟩⟩
        rw [HA.out, HTK.out, toks_err (by rw [Hr.out]; exact HE.out)]
        simp
end Go.Proofs.Ytecoahdeafobkaa
