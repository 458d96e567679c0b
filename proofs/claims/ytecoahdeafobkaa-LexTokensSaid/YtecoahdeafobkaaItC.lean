/- LexTokens, walked. -/
import Derived.Test.YtecoahdeafobkaaItB
import Derived.Laws.EntriesVeiled
namespace Go.Proofs.Ytecoahdeafobkaa
open Go.RowKit Go.Shelf
set_option linter.unusedVariables false
set_option linter.unusedSimpArgs false
attribute [local go_sem] Oper.semAt_some
attribute [local go_sem high] eqTokD
theorem eqF (b : Nat) (w : World) : (Go.binOp BinOp.eql 62 (.func (.func 28) #[] #[.pointer (some ⟨b, 0, none⟩)]) .nilFunc).run Try.prog w = .ok (.bool false) w := by kernel_rfl
attribute [local go_sem high] eqF

/-- Between two rounds of the law's loop: what lay when it began, the book, the marks. -/
structure LSt (W0 : World) (X : Nat) (s : ByteArray) (k : Nat) (Ds : List Nat) (W : World) : Prop where
  upd : Upd (fun b => b = X + 1) W0 W
  book : ∃ (T : Value) (vs : Nat → Value) (ns : Nat → Nat) (xs : Nat → List Value), BookAt W (X + 1 + 1 + 1 + 1) (X + 1) k T vs ∧ (∀ j, j < k → W.ownsRow (X + 1 + 1 + 1 + 1) 34 4 (vs j) (ns j) (xs j) ∧ ns j ≤ 1048577 ∧ Bk.Apart (vs j) T) ∧ ∀ i j, i < k → j < k → i ≠ j → Bk.Apart (vs i) (vs j)
  nodup : Ds.Nodup
  marks : ∀ D ∈ Ds, X + 1 + 1 + 1 + 1 ≤ D ∧ W.heap[D]? = some (.deferred (some []))
theorem LSt.new {W0 W W' : World} {X k : Nat} {s : ByteArray} {Ds : List Nat} (h : LSt W0 X s k Ds W) (hn : New W W') : LSt W0 X s k Ds W' := by
  obtain ⟨T, vs, ns, xs, h1, h2, h3⟩ := h.book
  exact ⟨h.upd.trans (hn.mono fun _ _ x => x.elim), ⟨T, vs, ns, xs, ⟨hn.heap h1.box (fun x => x), hn.ownsRow h1.own (fun _ _ x => x), h1.ne⟩, fun j hj => ⟨hn.ownsRow (h2 j hj).1 (fun _ _ x => x), (h2 j hj).2⟩, h3⟩, h.nodup, fun D hD => ⟨(h.marks D hD).1, hn.heap (h.marks D hD).2 (fun x => x)⟩⟩
theorem LSt.mark {W0 W : World} {X k D : Nat} {s : ByteArray} {Ds : List Nat} (h : LSt W0 X s k Ds W) (hD : W.heap[D]? = some (.deferred (some []))) (hb : X + 1 + 1 + 1 + 1 ≤ D) (hn : D ∉ Ds) : LSt W0 X s k (D :: Ds) W :=
  ⟨h.upd, h.book, List.nodup_cons.2 ⟨hn, h.nodup⟩, fun E hE => by
    rcases List.mem_cons.1 hE with rfl | hE
    · exact ⟨hb, hD⟩
    · exact h.marks E hE⟩
theorem lst_next {W0 W w1 w2 : World} {X k n : Nat} {s : ByteArray} {Ds : List Nat} {v : Value} {xs : List Value} (h : LSt W0 X s k Ds W) (hX : W0.heap.size = X + 1 + 1 + 1 + 1) (hn : New W w1) (ho : w1.ownsRow W.heap.size 34 4 v n xs) (hn2 : n ≤ 1048577) {T T' : Value} {vs : Nat → Value} {ns : Nat → Nat} {xs' : Nat → List Value}
    (h1 : BookAt W (X + 1 + 1 + 1 + 1) (X + 1) k T vs) (h2 : ∀ j, j < k → W.ownsRow (X + 1 + 1 + 1 + 1) 34 4 (vs j) (ns j) (xs' j) ∧ ns j ≤ 1048577 ∧ Bk.Apart (vs j) T) (h3 : ∀ i j, i < k → j < k → i ≠ j → Bk.Apart (vs i) (vs j))
    (a1 : BookAt w2 (X + 1 + 1 + 1 + 1) (X + 1) (k + 1) T' (Bk.setW vs k v)) (a2 : Upd (fun b => b = X + 1 ∨ T.ownBlock = some b) w1 w2) (a3 : T'.ownBlock = T.ownBlock ∨ ∀ b, T'.ownBlock = some b → w1.heap.size ≤ b) : LSt W0 X s (k + 1) Ds w2 := by
  have hs0 := h.upd.size
  have hs1 := hn.size
  have hs2 := a2.size
  have hT : ∀ b, T.ownBlock = some b → X + 1 + 1 + 1 + 1 ≤ b ∧ b < W.heap.size := Bk.own_lt h1.own
  have hv : ∀ b, v.ownBlock = some b → W.heap.size ≤ b ∧ b < w1.heap.size := Bk.own_lt ho
  have hj : ∀ j, j < k → ∀ b, (vs j).ownBlock = some b → X + 1 + 1 + 1 + 1 ≤ b ∧ b < W.heap.size := fun j hj => Bk.own_lt (h2 j hj).1
  have hAT' : ∀ {u : Value}, (∀ b, u.ownBlock = some b → b < w1.heap.size) → Bk.Apart u T → Bk.Apart u T' := by
    intro u hu hA b hb e
    rcases a3 with e3 | e3
    · exact hA b hb (e3 ▸ e)
    · have := e3 b e; have := hu b hb; omega
  have hAv : ∀ j, j < k → Bk.Apart (vs j) v := fun j hjk b hb e => by have := hj j hjk b hb; have := hv b e; omega
  refine ⟨(h.upd.trans (hn.mono fun _ _ x => x.elim)).trans' a2 (fun b hb e => by rcases e with e | e; exact e; have := hT b e; omega),
    ⟨T', Bk.setW vs k v, fun j => if j = k then n else ns j, fun j => if j = k then xs else xs' j, a1, ?_, ?_⟩, h.nodup, ?_⟩
  · intro j hjk
    by_cases e : j = k
    · subst e
      simp only [Bk.setW, if_true]
      refine ⟨?_, hn2, hAT' (fun b hb => (hv b hb).2) (fun b hb e => by have := hv b hb; have := hT b e; omega)⟩
      have ho2 : w1.ownsRow (X + 1 + 1 + 1 + 1) 34 4 v n xs := by
        refine ⟨ho.1, ?_⟩
        rcases ho.2 with hn | ⟨g, cap, cur, rfl, hb, rest⟩
        · exact .inl hn
        · exact .inr ⟨g, cap, cur, rfl, by omega, rest⟩
      exact a2.ownsRow ho2 (fun b hb e => by have := hv b hb; rcases e with e | e; omega; have := hT b e; omega)
    · have hjl : j < k := by omega
      simp only [Bk.setW, if_neg e]
      refine ⟨a2.ownsRow (hn.ownsRow (h2 j hjl).1 (fun _ _ x => x)) (fun b hb e2 => ?_), (h2 j hjl).2.1, hAT' (fun b hb => by have := hj j hjl b hb; omega) (h2 j hjl).2.2⟩
      rcases e2 with e2 | e2
      · have := hj j hjl b hb; omega
      · exact (h2 j hjl).2.2 b hb e2
  · intro i j hi hjk hne
    by_cases e : i = k
    · have e2 : j ≠ k := by omega
      simp only [Bk.setW, if_neg e2, if_pos e]
      exact (hAv j (by omega)).symm
    · by_cases e2 : j = k
      · simp only [Bk.setW, if_neg e, if_pos e2]
        exact hAv i (by omega)
      · simp only [Bk.setW, if_neg e, if_neg e2]
        exact h3 i j (by omega) (by omega) hne
  · intro D hD
    obtain ⟨m1, m2⟩ := h.marks D hD
    refine ⟨m1, a2.heap (hn.heap m2 (fun x => x)) (fun e => ?_)⟩
    rcases e with e | e
    · omega
    · rcases h1.own.2 with ⟨rfl, _⟩ | ⟨g, cap, cur, rfl, hb, hg, _⟩
      · simp [Value.ownBlock] at e
      · simp [Value.ownBlock] at e
        subst e
        rw [m2] at hg
        cases hg
/-- What All's range has laid together so far. -/
def AllSt (B Ba : Nat) (pre : List Tok) (W : World) : Prop := ∃ v, W.heap[Ba]? = some (.cells #[v] 26 (0, 0)) ∧ W.ownsRow B 34 4 v pre.length (tokCells pre) ∧ (pre.length = 0 → v = .slice none 0 0)
theorem allSt_own (B Ba C : Nat) : OwnFrom C (AllSt B Ba) := fun pre X Y row ⟨v, h1, h2, h3⟩ hg hr =>
  ⟨v, heap_kept hg (fun r e => (hr r e).2) h1, row_kept hg (fun r e => (hr r e).2) h2, h3⟩
theorem tokR_len2 (s : ByteArray) (h : s.size ≤ 1048576) : (tokR s).1.length ≤ 1048577 := by
  have := toks_len s _ 0 rfl (Nat.zero_le _)
  unfold tokR
  repeat' split
  all_goals (try simp only [List.length_nil])
  all_goals omega
theorem allR_len2 (s : ByteArray) (h : s.size ≤ 1048576) : (allR s).length ≤ 1048577 := by
  have := toks_len s _ 0 rfl (Nat.zero_le _)
  unfold allR
  repeat' split
  all_goals (try simp only [List.length_nil])
  all_goals omega
theorem allR_len (s : ByteArray) (h : s.size ≤ 1048576) : (allR s).length ≤ 9223372036854775806 := by have := allR_len2 s h; omega
theorem tokR_len (s : ByteArray) (h : s.size ≤ 1048576) : (tokR s).1.length ≤ 9223372036854775806 := by have := tokR_len2 s h; omega
theorem AllSt.new {B Ba : Nat} {pre : List Tok} {W W' : World} (h : AllSt B Ba pre W) (hn : New W W') : AllSt B Ba pre W' := by
  obtain ⟨v, h1, h2, h3⟩ := h
  exact ⟨v, hn.heap h1 (fun x => x), hn.ownsRow h2 (fun _ _ x => x), h3⟩
theorem allSt_push {W1 W w5 : World} {Ba c : Nat} {A : Option Addr} {pre : List Tok} {x : Tok} {v : Value} (hu : Upd (fun b => b = Ba) W1 W) (hBa : Ba < W1.heap.size) (hb : W.heap[Ba]? = some (.cells #[v] 26 (0, 0)))
    (ho5 : w5.ownsRow W1.heap.size 34 4 (.slice A (pre.length + 1) c) (pre.length + 1) (tokCells pre ++ x.cells)) (u5 : Upd (fun b => v.ownBlock = some b) W w5) (hv : ∀ b, v.ownBlock = some b → W1.heap.size ≤ b) :
    Upd (fun b => b = Ba) W1 (w5.setCell ⟨Ba, 0, none⟩ (.slice A (pre.length + 1) c)) ∧ AllSt W1.heap.size Ba (pre ++ [x]) (w5.setCell ⟨Ba, 0, none⟩ (.slice A (pre.length + 1) c)) := by
  have hb5 := u5.heap hb (fun e => by have := hv _ e; omega)
  have us : Upd (fun b => b = Ba) w5 (w5.setCell ⟨Ba, 0, none⟩ (.slice A (pre.length + 1) c)) := (Upd.refl (fun b => b = Ba) w5).set rfl _
  refine ⟨(hu.trans' u5 (fun b hb e => by have := hv b e; omega)).trans us, .slice A (pre.length + 1) c, ?_, ?_, fun e => by simp at e⟩
  · have := heap_setCell_same w5 Ba 0 _ 26 (.slice A (pre.length + 1) c) hb5
    rw [this]
    simp
  · rw [List.length_append, List.length_singleton, tokCells_append]
    exact us.ownsRow ho5 (fun b hb e => by have := (Bk.own_lt ho5 b hb).1; omega)
def Inv (w : World) (m : Int) (s : ByteArray) (v2 : Value) (X : Nat) (W0 : World) (a : Act) (W : World) : Prop :=
  ∃ (k : Nat) (Ds : List Nat) (u : Nat → Value), k ≤ 2 ∧ a = { tmps := (@List.toArray Value (.string s :: .int .i64 m :: undef :: .pointer (some ⟨w.heap.size, 0, none⟩) :: .pointer (some ⟨w.heap.size + 1, 0, none⟩) :: .bool true :: v2 :: .int .i64 (tokR s).2.1 :: .int .i64 ((tokR s).2.2 : Nat) :: .pointer (some ⟨X, 0, none⟩) :: .pointer (some ⟨X + 1, 0, none⟩) :: .pointer (some ⟨X + 1 + 1 + 1, 0, none⟩) :: .int .i64 k :: u 13 :: u 14 :: u 15 :: u 16 :: u 17 :: u 18 :: u 19 :: u 20 :: u 21 :: u 22 :: u 23 :: u 24 :: u 25 :: u 26 :: u 27 :: u 28 :: u 29 :: u 30 :: u 31 :: u 32 :: u 33 :: u 34 :: u 35 :: u 36 :: u 37 :: u 38 :: u 39 :: u 40 :: u 41 :: u 42 :: u 43 :: u 44 :: u 45 :: u 46 :: u 47 :: u 48 :: u 49 :: u 50 :: u 51 :: u 52 :: u 53 :: u 54 :: u 55 :: u 56 :: u 57 :: u 58 :: u 59 :: u 60 :: u 61 :: u 62 :: u 63 :: u 64 :: u 65 :: u 66 :: u 67 :: u 68 :: u 69 :: u 70 :: u 71 :: u 72 :: u 73 :: u 74 :: u 75 :: u 76 :: u 77 :: u 78 :: u 79 :: u 80 :: u 81 :: u 82 :: u 83 :: u 84 :: u 85 :: u 86 :: u 87 :: u 88 :: u 89 :: u 90 :: u 91 :: u 92 :: u 93 :: u 94 :: u 95 :: u 96 :: u 97 :: u 98 :: u 99 :: u 100 :: u 101 :: u 102 :: u 103 :: u 104 :: u 105 :: u 106 :: u 107 :: u 108 :: u 109 :: u 110 :: u 111 :: u 112 :: u 113 :: u 114 :: u 115 :: u 116 :: u 117 :: u 118 :: u 119 :: u 120 :: u 121 :: u 122 :: u 123 :: u 124 :: u 125 :: u 126 :: u 127 :: u 128 :: u 129 :: u 130 :: [])), defers := Ds.map (fun D => ({ target := .collected D, args := #[] } : Deferred)) } ∧ LSt W0 X s k Ds W
theorem inv_of {w : World} {m : Int} {s : ByteArray} {v2 : Value} {X : Nat} {W0 : World} {T : Array Value} {ds : List Deferred} {W : World} (k : Nat) (Ds : List Nat) (hk : k ≤ 2) (hd : ds = Ds.map (fun D => ({ target := .collected D, args := #[] } : Deferred))) (hl : LSt W0 X s k Ds W)
    (hT : T = (fun (u : Nat → Value) => (@List.toArray Value (.string s :: .int .i64 m :: undef :: .pointer (some ⟨w.heap.size, 0, none⟩) :: .pointer (some ⟨w.heap.size + 1, 0, none⟩) :: .bool true :: v2 :: .int .i64 (tokR s).2.1 :: .int .i64 ((tokR s).2.2 : Nat) :: .pointer (some ⟨X, 0, none⟩) :: .pointer (some ⟨X + 1, 0, none⟩) :: .pointer (some ⟨X + 1 + 1 + 1, 0, none⟩) :: .int .i64 k :: u 13 :: u 14 :: u 15 :: u 16 :: u 17 :: u 18 :: u 19 :: u 20 :: u 21 :: u 22 :: u 23 :: u 24 :: u 25 :: u 26 :: u 27 :: u 28 :: u 29 :: u 30 :: u 31 :: u 32 :: u 33 :: u 34 :: u 35 :: u 36 :: u 37 :: u 38 :: u 39 :: u 40 :: u 41 :: u 42 :: u 43 :: u 44 :: u 45 :: u 46 :: u 47 :: u 48 :: u 49 :: u 50 :: u 51 :: u 52 :: u 53 :: u 54 :: u 55 :: u 56 :: u 57 :: u 58 :: u 59 :: u 60 :: u 61 :: u 62 :: u 63 :: u 64 :: u 65 :: u 66 :: u 67 :: u 68 :: u 69 :: u 70 :: u 71 :: u 72 :: u 73 :: u 74 :: u 75 :: u 76 :: u 77 :: u 78 :: u 79 :: u 80 :: u 81 :: u 82 :: u 83 :: u 84 :: u 85 :: u 86 :: u 87 :: u 88 :: u 89 :: u 90 :: u 91 :: u 92 :: u 93 :: u 94 :: u 95 :: u 96 :: u 97 :: u 98 :: u 99 :: u 100 :: u 101 :: u 102 :: u 103 :: u 104 :: u 105 :: u 106 :: u 107 :: u 108 :: u 109 :: u 110 :: u 111 :: u 112 :: u 113 :: u 114 :: u 115 :: u 116 :: u 117 :: u 118 :: u 119 :: u 120 :: u 121 :: u 122 :: u 123 :: u 124 :: u 125 :: u 126 :: u 127 :: u 128 :: u 129 :: u 130 :: []))) (fun j => T.toList.getD j undef)) : Inv w m s v2 X W0 { tmps := T, defers := ds } W :=
  ⟨k, Ds, fun j => T.toList.getD j undef, hk, by rw [hd]; exact congrArg (fun t => ({ tmps := t, defers := _ } : Act)) hT, hl⟩

set_option maxHeartbeats 16000000 in
set_option maxRecDepth 100000 in
theorem lextokens_calls (s : ByteArray) (m : Int) (w : World) (hsz : decide ((1048576 : Int) < s.size) = false) : Calls Try.prog 8 #[.string s, .int .i64 m] w fun e w' => e = .returned (.bool true) ∧ New w w' := by
  have hs : Small s := by have := of_decide_eq_false hsz; unfold Small; omega
  have hs20 : s.size ≤ 1048576 := by have := of_decide_eq_false hsz; omega
  have HS := Lib.hid hs
  have R16 := Lib.hid (fun w => rtokens_res s hs w)
  have R17 := Lib.hid (fun w => rall_res s hs w)
  have R12 := Lib.hid (fun w => tokens_res s hs w)
  obtain ⟨i0, hi0, hz0, hz1, hz2⟩ := info_parts infoE
  refine (callsIn_wide (n := 8)).1 ?_
  refine callsIn_of_wp_marks Try.func8 rfl trivial ?_ rfl
  simp only [Try.ntmps8, List.size_toArray, List.length_cons, List.length_nil, Nat.reduceAdd, Nat.reduceSub, Array.replicate_succ, Array.replicate_zero, List.push_toArray, List.append_toArray, List.nil_append, List.cons_append]
  gi_wp2_with (first
    | (refine ⟨trivial, ?_⟩; gi_at_call 9; refine (callsIn_wide.2 (works_calls _)).mono ?_; rintro e w1 ⟨rfl, hu1⟩; have HU1 := Lib.hid hu1; clear hu1)
    | (refine ⟨trivial, ?_⟩; gi_at_call 16; refine (callsIn_wide.2 (R16.out _)).mono ?_; rintro e w2 ⟨hu2, v2, rfl, ho2⟩; have HU2 := Lib.hid hu2; have HO2 := Lib.hid ho2; clear hu2 ho2; dsimp only)
    | (refine ⟨trivial, ?_⟩; gi_at_call 17; refine (callsIn_wide.2 (R17.out _)).mono ?_; rintro e w3 ⟨hu3, v3, rfl, ho3⟩; obtain ⟨A3, c3, rfl⟩ := Bk.own_form ho3; have HU3 := Lib.hid hu3; have HO3 := Lib.hid ho3; clear hu3 ho3)
    | (refine ⟨trivial, ?_⟩; gi_at_call 18; refine (callsIn_wide.2 (all_calls s _)).mono ?_; rintro e w4 ⟨rfl, rfl⟩))
  have hq1 := HU1.out.size
  have hq2 := HU2.out.size
  have hq3 := HU3.out.size
  have H0 : New (((w.alloc (.cells #[.int .i64 m] 3)).alloc (.cells #[.bool false] 4))) w3 := (HU1.out.trans HU2.out).trans HU3.out
  simp only [World.size_alloc] at hq1
  have hXw : w.heap.size + 1 + 1 ≤ w3.heap.size := by omega
  have hsW0 : ((((w3.alloc (.cells #[.slice A3 (allR s).length c3] 26)).alloc (.cells #[.slice none 0 0, .slice none 0 0, .slice none 0 0, .slice none 0 0, .slice none 0 0, .slice none 0 0, .slice none 0 0, .slice none 0 0, .slice none 0 0, .slice none 0 0, .slice none 0 0, .slice none 0 0, .slice none 0 0, .slice none 0 0, .slice none 0 0, .slice none 0 0, .slice none 0 0] 60)).alloc (.cells #[.string s] 9)).alloc (.cells #[.func (.func 28) #[] #[.pointer (some ⟨w3.heap.size + 1 + 1, 0, none⟩)]] 62)).heap.size = w3.heap.size + 1 + 1 + 1 + 1 := by simp
  have hn0 : New w ((((w3.alloc (.cells #[.slice A3 (allR s).length c3] 26)).alloc (.cells #[.slice none 0 0, .slice none 0 0, .slice none 0 0, .slice none 0 0, .slice none 0 0, .slice none 0 0, .slice none 0 0, .slice none 0 0, .slice none 0 0, .slice none 0 0, .slice none 0 0, .slice none 0 0, .slice none 0 0, .slice none 0 0, .slice none 0 0, .slice none 0 0, .slice none 0 0] 60)).alloc (.cells #[.string s] 9)).alloc (.cells #[.func (.func 28) #[] #[.pointer (some ⟨w3.heap.size + 1 + 1, 0, none⟩)]] 62)) := (((((((Upd.refl (fun _ => False) w).alloc _).alloc _).trans H0).alloc _).alloc _).alloc _).alloc _
  have n4 : New w3 ((((w3.alloc (.cells #[.slice A3 (allR s).length c3] 26)).alloc (.cells #[.slice none 0 0, .slice none 0 0, .slice none 0 0, .slice none 0 0, .slice none 0 0, .slice none 0 0, .slice none 0 0, .slice none 0 0, .slice none 0 0, .slice none 0 0, .slice none 0 0, .slice none 0 0, .slice none 0 0, .slice none 0 0, .slice none 0 0, .slice none 0 0, .slice none 0 0] 60)).alloc (.cells #[.string s] 9)).alloc (.cells #[.func (.func 28) #[] #[.pointer (some ⟨w3.heap.size + 1 + 1, 0, none⟩)]] 62)) := ((((Upd.refl (fun _ => False) w3).alloc _).alloc _).alloc _).alloc _
  have e0 : ((((w3.alloc (.cells #[.slice A3 (allR s).length c3] 26)).alloc (.cells #[.slice none 0 0, .slice none 0 0, .slice none 0 0, .slice none 0 0, .slice none 0 0, .slice none 0 0, .slice none 0 0, .slice none 0 0, .slice none 0 0, .slice none 0 0, .slice none 0 0, .slice none 0 0, .slice none 0 0, .slice none 0 0, .slice none 0 0, .slice none 0 0, .slice none 0 0] 60)).alloc (.cells #[.string s] 9)).alloc (.cells #[.func (.func 28) #[] #[.pointer (some ⟨w3.heap.size + 1 + 1, 0, none⟩)]] 62)).heap[w.heap.size]? = some (.cells #[.int .i64 m] 3 (0, 0)) := n4.heap (H0.heap (alloc1 w _ _) (fun x => x)) (fun x => x)
  have e1 : ((((w3.alloc (.cells #[.slice A3 (allR s).length c3] 26)).alloc (.cells #[.slice none 0 0, .slice none 0 0, .slice none 0 0, .slice none 0 0, .slice none 0 0, .slice none 0 0, .slice none 0 0, .slice none 0 0, .slice none 0 0, .slice none 0 0, .slice none 0 0, .slice none 0 0, .slice none 0 0, .slice none 0 0, .slice none 0 0, .slice none 0 0, .slice none 0 0] 60)).alloc (.cells #[.string s] 9)).alloc (.cells #[.func (.func 28) #[] #[.pointer (some ⟨w3.heap.size + 1 + 1, 0, none⟩)]] 62)).heap[w.heap.size + 1]? = some (.cells #[.bool false] 4 (0, 0)) := n4.heap (H0.heap (alloc2 w _ _) (fun x => x)) (fun x => x)
  have eS : ((((w3.alloc (.cells #[.slice A3 (allR s).length c3] 26)).alloc (.cells #[.slice none 0 0, .slice none 0 0, .slice none 0 0, .slice none 0 0, .slice none 0 0, .slice none 0 0, .slice none 0 0, .slice none 0 0, .slice none 0 0, .slice none 0 0, .slice none 0 0, .slice none 0 0, .slice none 0 0, .slice none 0 0, .slice none 0 0, .slice none 0 0, .slice none 0 0] 60)).alloc (.cells #[.string s] 9)).alloc (.cells #[.func (.func 28) #[] #[.pointer (some ⟨w3.heap.size + 1 + 1, 0, none⟩)]] 62)).heap[w3.heap.size]? = some (.cells #[.slice A3 (allR s).length c3] 26 (0, 0)) := (((Upd.refl (fun _ => False) (w3.alloc (.cells #[.slice A3 (allR s).length c3] 26))).alloc (.cells #[.slice none 0 0, .slice none 0 0, .slice none 0 0, .slice none 0 0, .slice none 0 0, .slice none 0 0, .slice none 0 0, .slice none 0 0, .slice none 0 0, .slice none 0 0, .slice none 0 0, .slice none 0 0, .slice none 0 0, .slice none 0 0, .slice none 0 0, .slice none 0 0, .slice none 0 0] 60)).alloc (.cells #[.string s] 9)).alloc _ |>.heap (heap_alloc_new w3 _) (fun x => x)
  have eB : ((((w3.alloc (.cells #[.slice A3 (allR s).length c3] 26)).alloc (.cells #[.slice none 0 0, .slice none 0 0, .slice none 0 0, .slice none 0 0, .slice none 0 0, .slice none 0 0, .slice none 0 0, .slice none 0 0, .slice none 0 0, .slice none 0 0, .slice none 0 0, .slice none 0 0, .slice none 0 0, .slice none 0 0, .slice none 0 0, .slice none 0 0, .slice none 0 0] 60)).alloc (.cells #[.string s] 9)).alloc (.cells #[.func (.func 28) #[] #[.pointer (some ⟨w3.heap.size + 1 + 1, 0, none⟩)]] 62)).heap[w3.heap.size + 1]? = some (.cells #[.slice none 0 0, .slice none 0 0, .slice none 0 0, .slice none 0 0, .slice none 0 0, .slice none 0 0, .slice none 0 0, .slice none 0 0, .slice none 0 0, .slice none 0 0, .slice none 0 0, .slice none 0 0, .slice none 0 0, .slice none 0 0, .slice none 0 0, .slice none 0 0, .slice none 0 0] 60 (0, 0)) := ((Upd.refl (fun _ => False) ((w3.alloc (.cells #[.slice A3 (allR s).length c3] 26)).alloc (.cells #[.slice none 0 0, .slice none 0 0, .slice none 0 0, .slice none 0 0, .slice none 0 0, .slice none 0 0, .slice none 0 0, .slice none 0 0, .slice none 0 0, .slice none 0 0, .slice none 0 0, .slice none 0 0, .slice none 0 0, .slice none 0 0, .slice none 0 0, .slice none 0 0, .slice none 0 0] 60))).alloc (.cells #[.string s] 9)).alloc _ |>.heap (alloc2 w3 _ _) (fun x => x)
  have eN : ((((w3.alloc (.cells #[.slice A3 (allR s).length c3] 26)).alloc (.cells #[.slice none 0 0, .slice none 0 0, .slice none 0 0, .slice none 0 0, .slice none 0 0, .slice none 0 0, .slice none 0 0, .slice none 0 0, .slice none 0 0, .slice none 0 0, .slice none 0 0, .slice none 0 0, .slice none 0 0, .slice none 0 0, .slice none 0 0, .slice none 0 0, .slice none 0 0] 60)).alloc (.cells #[.string s] 9)).alloc (.cells #[.func (.func 28) #[] #[.pointer (some ⟨w3.heap.size + 1 + 1, 0, none⟩)]] 62)).heap[w3.heap.size + 1 + 1]? = some (.cells #[.string s] 9 (0, 0)) := by
    have h := heap_alloc_new ((w3.alloc (.cells #[.slice A3 (allR s).length c3] 26)).alloc (.cells #[.slice none 0 0, .slice none 0 0, .slice none 0 0, .slice none 0 0, .slice none 0 0, .slice none 0 0, .slice none 0 0, .slice none 0 0, .slice none 0 0, .slice none 0 0, .slice none 0 0, .slice none 0 0, .slice none 0 0, .slice none 0 0, .slice none 0 0, .slice none 0 0, .slice none 0 0] 60)) (.cells #[.string s] 9)
    simp only [World.size_alloc] at h
    exact (((Upd.refl (fun _ => False) _).alloc _).heap h (fun x => x))
  have eI : ((((w3.alloc (.cells #[.slice A3 (allR s).length c3] 26)).alloc (.cells #[.slice none 0 0, .slice none 0 0, .slice none 0 0, .slice none 0 0, .slice none 0 0, .slice none 0 0, .slice none 0 0, .slice none 0 0, .slice none 0 0, .slice none 0 0, .slice none 0 0, .slice none 0 0, .slice none 0 0, .slice none 0 0, .slice none 0 0, .slice none 0 0, .slice none 0 0] 60)).alloc (.cells #[.string s] 9)).alloc (.cells #[.func (.func 28) #[] #[.pointer (some ⟨w3.heap.size + 1 + 1, 0, none⟩)]] 62)).heap[w3.heap.size + 1 + 1 + 1]? = some (.cells #[.func (.func 28) #[] #[.pointer (some ⟨w3.heap.size + 1 + 1, 0, none⟩)]] 62 (0, 0)) := by
    have h := heap_alloc_new (((w3.alloc (.cells #[.slice A3 (allR s).length c3] 26)).alloc (.cells #[.slice none 0 0, .slice none 0 0, .slice none 0 0, .slice none 0 0, .slice none 0 0, .slice none 0 0, .slice none 0 0, .slice none 0 0, .slice none 0 0, .slice none 0 0, .slice none 0 0, .slice none 0 0, .slice none 0 0, .slice none 0 0, .slice none 0 0, .slice none 0 0, .slice none 0 0] 60)).alloc (.cells #[.string s] 9)) (.cells #[.func (.func 28) #[] #[.pointer (some ⟨w3.heap.size + 1 + 1, 0, none⟩)]] 62)
    simp only [World.size_alloc] at h
    exact h
  have tW := (TokRd.of_own HO2.out).new (HU3.out.trans n4)
  have tS := (TokRd.of_own HO3.out).new n4
  have bW := fun b (hb : v2.ownBlock = some b) => (Bk.own_lt HO2.out b hb).2
  have bS := fun b (hb : (Value.slice A3 (allR s).length c3).ownBlock = some b) => (Bk.own_lt HO3.out b hb).2
  generalize ((((w3.alloc (.cells #[.slice A3 (allR s).length c3] 26)).alloc (.cells #[.slice none 0 0, .slice none 0 0, .slice none 0 0, .slice none 0 0, .slice none 0 0, .slice none 0 0, .slice none 0 0, .slice none 0 0, .slice none 0 0, .slice none 0 0, .slice none 0 0, .slice none 0 0, .slice none 0 0, .slice none 0 0, .slice none 0 0, .slice none 0 0, .slice none 0 0] 60)).alloc (.cells #[.string s] 9)).alloc (.cells #[.func (.func 28) #[] #[.pointer (some ⟨w3.heap.size + 1 + 1, 0, none⟩)]] 62)) = W0 at *
  clear HO2 HO3 HU1 HU2 HU3 H0 n4 R16 R17
  have hbW : ∀ b, v2.ownBlock = some b → b < w3.heap.size := fun b hb => by have := bW b hb; omega
  clear bW
  generalize w3.heap.size = X at *
  have E0 := Lib.hid e0
  have E1 := Lib.hid e1
  have ES := Lib.hid eS
  have EB := Lib.hid eB
  have EN := Lib.hid eN
  have EI := Lib.hid eI
  have TW := Lib.hid tW
  have TS := Lib.hid tS
  have HBW := Lib.hid hbW
  have HBS := Lib.hid bS
  have HN0 := Lib.hid hn0
  clear e0 e1 eS eB eN eI tW tS hbW bS hn0 hq1 hq2 hq3
  have h0 : LSt W0 X s 0 [] W0 := by
    refine ⟨Upd.refl _ _, ⟨.slice none 0 0, fun _ => .slice none 0 0, fun _ => 0, fun _ => [], ⟨EB.out, ⟨rfl, .inl ⟨rfl, rfl⟩⟩, by simp [Value.ownBlock]⟩, fun j hj => by omega, fun i j hi => by omega⟩, List.nodup_nil, fun D hD => by simp at hD⟩
  have HST := Lib.hid h0
  clear h0
  refine wpIn_loop (Inv w m s v2 X W0) (fun a W => 2 - (intOf (a.tmps.toList.getD 12 undef)).toNat) ?start ?round
  case start => exact inv_of 0 [] (by omega) rfl HST.out rfl
  case round =>
    rintro a W ⟨k, Ds, u, hk, rfl, hl⟩
    have HL := Lib.hid hl
    clear hl HST
    have k0 : (0 : Int) ≤ k := by omega
    have k1 : (k : Int) ≤ 2 := by omega
    have ek : IntKind.i64.wrap ((k : Int) + 1) = (k : Int) + 1 := IntWalk.i64_in _ (by omega)
    by_cases hk2 : k < 2
    · skip
      have k2 : (k : Int) < 2 := by omega
      obtain ⟨T, vs, ns, xs, hb1, hb2, hb3⟩ := HL.out.book
      have HB1 := Lib.hid hb1
      have HB2 := Lib.hid hb2
      have HB3 := Lib.hid hb3
      clear hb1 hb2 hb3
      gi_wp2_with (first
        | (refine ⟨trivial, ?_⟩; gi_at_call 12; refine (callsIn_wide.2 (R12.out _)).mono ?_; rintro e w5 ⟨hu5, v5, rfl, ho5⟩; obtain ⟨A5, c5, rfl⟩ := Bk.own_form ho5; have HU5 := Lib.hid hu5; have HO5 := Lib.hid ho5; clear hu5 ho5; dsimp only)
        | (refine ⟨trivial, ?_⟩; gi_at_call 19; refine (callsIn_wide.2 (sameTokens_calls (TokRd.of_own HO5.out) ((TW.out.upd HL.out.upd (fun b hb e => by have := HBW.out b hb; omega)).new HU5.out) (tokR_len s hs20))).mono ?_; rintro e w6 ⟨rfl, hu6⟩; have HU6 := Lib.hid hu6; clear hu6)
        | (refine ⟨trivial, ?_⟩; gi_at_call 20; refine (callsIn_wide.2 (put_calls (T := T) (vs := vs) (m := k) ⟨(HU5.out.trans HU6.out).heap HB1.out.box (fun x => x), (HU5.out.trans HU6.out).ownsRow HB1.out.own (fun _ _ x => x), HB1.out.ne⟩ A5 (tokR s).1.length c5 (by omega) (by have := HL.out.upd.size; have := (HU5.out.trans HU6.out).size; omega))).mono ?_; rintro e w7 ⟨rfl, T', hp1, hp2, hp3⟩; have hp7 := lst_next HL.out hsW0 (HU5.out.trans HU6.out) (HU6.out.ownsRow HO5.out (fun _ _ x => x)) (tokR_len2 s hs20) HB1.out HB2.out HB3.out hp1 hp2 hp3; have hI7 := hp7.upd.heap EI.out (by omega); have lI7 := (Array.getElem?_eq_some_iff.1 hI7).1; have HI7 := Lib.hid hI7; obtain ⟨cI, fI⟩ := blk1c hI7; have HP7 := Lib.hid hp7; clear hp1 hp2 hp3 hp7 hI7))
      have hwN := HP7.out.upd.heap EN.out (by omega)
      have hwS := HP7.out.upd.heap ES.out (by omega)
      have hw0 := HP7.out.upd.heap E0.out (by omega)
      have hw1 := HP7.out.upd.heap E1.out (by omega)
      have tS7 := TS.out.upd HP7.out.upd (fun b hb e => by have := HBS.out b hb; omega)
      have hwN1 := halloc hwN (.cells #[.slice none 0 0] 26)
      have hwS1 := halloc hwS (.cells #[.slice none 0 0] 26)
      have hw01 := halloc hw0 (.cells #[.slice none 0 0] 26)
      have hw11 := halloc hw1 (.cells #[.slice none 0 0] 26)
      have hwI1 := halloc HI7.out (.cells #[.slice none 0 0] 26)
      have tS1 := tS7.new ((Upd.refl (fun _ => False) w7).alloc (.cells #[.slice none 0 0] 26))
      have hba := heap_alloc_new w7 (.cells #[.slice none 0 0] 26)
      have hsA : (w7.alloc (.cells #[.slice none 0 0] 26)).heap.size = w7.heap.size + 1 := by simp
      have hs7 := HP7.out.upd.size
      have hn71 := (Upd.refl (fun _ => False) w7).alloc (.cells #[.slice none 0 0] 26)
      generalize w7.alloc (.cells #[.slice none 0 0] 26) = W1 at *
      have HBA := Lib.hid hba
      have N71 := Lib.hid hn71
      have WN := Lib.hid hwN1
      have WS := Lib.hid hwS1
      have WI := Lib.hid hwI1
      have WM := Lib.hid hw01
      have WR := Lib.hid hw11
      have TS1 := Lib.hid tS1
      clear hn71 hba hwN hwS hw0 hw1 hwN1 hwS1 hw01 hw11 hwI1 tS7 tS1 cI fI lI7 HI7 HU5 HO5 HU6
      refine range_tokH (n := 8) (b := 18) (by decide) rfl HS.out WN.out (fun pre W => Upd (fun b => b = w7.heap.size) W1 W ∧ AllSt W1.heap.size w7.heap.size pre W) (fun _ _ _ => False) (OwnFrom.and (ownFrom_upd (Nat.le_refl _)) (allSt_own _ _ _)) (fun _ _ _ _ _ hs _ _ => hs)
        ⟨Upd.refl _ _, .slice none 0 0, HBA.out, ⟨rfl, .inl ⟨rfl, rfl⟩⟩, fun _ => rfl⟩ (fun pre W h => h.1.size) ?assign1 ?body1 ?done1 (fun _ _ _ _ _ _ h _ => h.elim)
      case assign1 =>
        intro l x W K hK
        simp only [Tok.v, tokV, List.setIfInBounds_toArray, List.set_cons_succ, List.set_cons_zero] at hK ⊢
        gi_wp2
        exact hK
      case body1 =>
        rintro l pre x Bx W hl ⟨r, hr⟩ ⟨hu, v, hb, ho, hv⟩ hBx hbx hlt
        simp only [Tok.v, tokV, List.setIfInBounds_toArray, List.set_cons_succ, List.set_cons_zero]
        obtain ⟨Av, cv, rfl⟩ := Bk.own_form ho
        have n7 : New w7 W := N71.out.trans' hu (fun b hb e => by omega)
        have uW := HP7.out.upd.trans (n7.mono fun _ _ x => x.elim)
        have hs9 := n7.size
        have HI2 := Lib.hid (uW.heap EI.out (by omega))
        have lI := (Array.getElem?_eq_some_iff.1 HI2.out).1
        have lA := (Array.getElem?_eq_some_iff.1 hb).1
        obtain ⟨cA, fA⟩ := blk1c hb
        obtain ⟨cI, fI⟩ := blk1c HI2.out
        obtain ⟨x0, x1, x2, x3⟩ := blk4t hbx
        have HROW := Lib.hid ho
        have HBA2 := Lib.hid hb
        have HVB := Lib.hid (show ∀ b, (Value.slice Av pre.length cv).ownBlock = some b → W1.heap.size ≤ b ∧ b < W.heap.size from Bk.own_lt ho)
        have HV := Lib.hid hv
        have HUW := Lib.hid uW
        have HUA := Lib.hid hu
        have HLR := Lib.hid hr
        have p2 : pre.length ≤ 1048577 := by have := allR_len2 s hs20; omega
        have hs1W := hu.size
        have M1 := Lib.hid (show pre.length + 1 ≤ maxLen by unfold maxLen; omega)
        have M2 := Lib.hid (show (pre.length + 1) * 40 ≤ 140737488355328 by omega)
        have M3 := Lib.hid (show W1.heap.size ≤ (W.alloc (.cells #[.int .u8 x.k, .string x.t, .int .i64 x.n, .int .i64 x.a] 34)).heap.size by simp; omega)
        clear hu hb ho hv hr n7 uW hbx
        cases h2 : ((pre.length : Int) + 1 == 2) with
        | false =>
          gi_wp2_with (gi_at_builtin; refine wpListIn_append3 (W.alloc (.cells #[.int .u8 x.k, .string x.t, .int .i64 x.n, .int .i64 x.a] 34)) (by rfl) (.tmp 74) (.tmp 76) 26 (by rfl) W1.heap.size 34 i0 _ 4 40 Try.underlying26 hi0 hz0 hz1 hz2 rfl (by decide) (.slice Av pre.length cv) pre.length (tokCells pre) (by rfl) (HROW.out.alloc (.cells #[.int .u8 x.k, .string x.t, .int .i64 x.n, .int .i64 x.a] 34)) W.heap.size 1 1 (Tok.cells x) (by rfl) (by decide) (by rfl) (World.news_of_block (heap_alloc_new W (.cells #[.int .u8 x.k, .string x.t, .int .i64 x.n, .int .i64 x.a] 34))) (tok_one x) M1.out M2.out M3.out ?_; intro v1 w9 ho9 hg9; obtain ⟨A9, c9, rfl⟩ := Bk.own_form ho9; have u9 := ((Upd.refl (fun b => (Value.slice Av pre.length cv).ownBlock = some b) W).alloc (.cells #[.int .u8 x.k, .string x.t, .int .i64 x.n, .int .i64 x.a] 34)).trans hg9.upd; have hA9 := u9.heap HBA2.out (fun e => by have := HVB.out _ e; omega); have hI9 := u9.heap HI2.out (fun e => by have := HVB.out _ e; omega); obtain ⟨dA, dfA⟩ := blk1c hA9; obtain ⟨dI, dfI⟩ := blk1c hI9; have lA9 := (Array.getElem?_eq_some_iff.1 hA9).1; have lI9 := (Array.getElem?_eq_some_iff.1 hI9).1; have HO9 := Lib.hid ho9; have HG9 := Lib.hid hg9; have U9 := Lib.hid u9; have HA9 := Lib.hid hA9; clear ho9 hg9 u9 hA9 hI9)
          gi_wp2
          obtain ⟨q1, q2⟩ := allSt_push HUA.out (by omega) HBA2.out HO9.out U9.out (fun b e => (HVB.out b e).1)
          have hKP := ((Kpt.new ((Upd.refl (fun _ => False) W).alloc (.cells #[.int .u8 x.k, .string x.t, .int .i64 x.n, .int .i64 x.a] 34))).trans (Kpt.grew HG9.out (HROW.out.alloc (.cells #[.int .u8 x.k, .string x.t, .int .i64 x.n, .int .i64 x.a] 34)) HV.out)).trans (Kpt.set (i := 0) (u := .slice A9 (pre.length + 1) c9) HA9.out (by decide))
          exact ⟨hKP.1.from _, hKP.2, q1, q2⟩
        | true =>
          gi_wp2_with (gi_at_builtin; refine wpListIn_append3 (W.alloc (.cells #[.int .u8 x.k, .string x.t, .int .i64 x.n, .int .i64 x.a] 34)) (by rfl) (.tmp 74) (.tmp 76) 26 (by rfl) W1.heap.size 34 i0 _ 4 40 Try.underlying26 hi0 hz0 hz1 hz2 rfl (by decide) (.slice Av pre.length cv) pre.length (tokCells pre) (by rfl) (HROW.out.alloc (.cells #[.int .u8 x.k, .string x.t, .int .i64 x.n, .int .i64 x.a] 34)) W.heap.size 1 1 (Tok.cells x) (by rfl) (by decide) (by rfl) (World.news_of_block (heap_alloc_new W (.cells #[.int .u8 x.k, .string x.t, .int .i64 x.n, .int .i64 x.a] 34))) (tok_one x) M1.out M2.out M3.out ?_; intro v1 w9 ho9 hg9; obtain ⟨A9, c9, rfl⟩ := Bk.own_form ho9; have u9 := ((Upd.refl (fun b => (Value.slice Av pre.length cv).ownBlock = some b) W).alloc (.cells #[.int .u8 x.k, .string x.t, .int .i64 x.n, .int .i64 x.a] 34)).trans hg9.upd; have hA9 := u9.heap HBA2.out (fun e => by have := HVB.out _ e; omega); have hI9 := u9.heap HI2.out (fun e => by have := HVB.out _ e; omega); obtain ⟨dA, dfA⟩ := blk1c hA9; obtain ⟨dI, dfI⟩ := blk1c hI9; have lA9 := (Array.getElem?_eq_some_iff.1 hA9).1; have lI9 := (Array.getElem?_eq_some_iff.1 hI9).1; have HO9 := Lib.hid ho9; have HG9 := Lib.hid hg9; have U9 := Lib.hid u9; have HA9 := Lib.hid hA9; clear ho9 hg9 u9 hA9 hI9)
          obtain ⟨q1, q2⟩ := allSt_push HUA.out (by omega) HBA2.out HO9.out U9.out (fun b e => (HVB.out b e).1)
          have hKP := ((Kpt.new ((Upd.refl (fun _ => False) W).alloc (.cells #[.int .u8 x.k, .string x.t, .int .i64 x.n, .int .i64 x.a] 34))).trans (Kpt.grew HG9.out (HROW.out.alloc (.cells #[.int .u8 x.k, .string x.t, .int .i64 x.n, .int .i64 x.a] 34)) HV.out)).trans (Kpt.set (i := 0) (u := .slice A9 (pre.length + 1) c9) HA9.out (by decide))
          have u9s : Upd (fun b => b = X + 1) W0 (w9.setCell ⟨w7.heap.size, 0, none⟩ (.slice A9 (pre.length + 1) c9)) := (HUW.out.trans' U9.out (fun b hb e => by have := (HVB.out b e).1; omega)).trans' ((Upd.refl (fun b => b = w7.heap.size) w9).set rfl _) (fun b hb e => by omega)
          have hsq : (w9.setCell ⟨w7.heap.size, 0, none⟩ (.slice A9 (pre.length + 1) c9)).heap.size = w9.heap.size := by simp
          have hs99 := U9.out.size
          have hni := (Upd.refl (fun _ => False) (w9.setCell ⟨w7.heap.size, 0, none⟩ (.slice A9 (pre.length + 1) c9))).alloc (.cells #[.int .i64 0] 3)
          have hqi := heap_alloc_new (w9.setCell ⟨w7.heap.size, 0, none⟩ (.slice A9 (pre.length + 1) c9)) (.cells #[.int .i64 0] 3)
          rw [hsq] at hqi
          have Q1 := Lib.hid q1
          have Q2 := Lib.hid q2
          have KP := Lib.hid hKP
          clear q1 q2 hKP dA dfA dI dfI cA fA cI fI
          generalize w9.setCell ⟨w7.heap.size, 0, none⟩ (.slice A9 (pre.length + 1) c9) = Wq at *
          have hsi : (Wq.alloc (.cells #[.int .i64 0] 3)).heap.size = w9.heap.size + 1 := by simp [hsq]
          generalize Wq.alloc (.cells #[.int .i64 0] 3) = Wi at *
          have NI := Lib.hid hni
          have HQI := Lib.hid hqi
          have UI := Lib.hid (u9s.trans (hni.mono fun _ _ x => x.elim))
          have hri := (Kpt.trans KP.out (Kpt.new hni)).1.same l _ HLR.out rfl
          have WNI := Lib.hid (UI.out.heap EN.out (by omega))
          clear hni hqi u9s
          refine range_tokN (n := 8 - 1 - 1) (b := 20) (l₀ := l) (r₀ := r) hri (by decide) rfl HS.out WNI.out (Cnt Wi w9.heap.size (allR s)) (fun c pre W => ¬ pre <+: allR s) (cnt_own (Nat.le_refl _)) (fun c pre X Y row h _ _ => h)
            ⟨⟨Upd.refl _ _, HQI.out⟩, List.nil_prefix⟩ (fun pre W h => h.1.1.size) ?assign2 ?body2 ?done2 (fun c pre2 W2 hp hc => absurd hp hc)
          case assign2 =>
            intro l x W K hK
            simp only [Tok.v, tokV, List.setIfInBounds_toArray, List.set_cons_succ, List.set_cons_zero] at hK ⊢
            gi_wp2
            exact hK
          case body2 =>
            rintro l pre x Bx W hl hr hc hBx hbx hlt
            simp only [Tok.v, tokV, List.setIfInBounds_toArray, List.set_cons_succ, List.set_cons_zero]
            have uW := UI.out.trans' hc.1.1 (fun b hb e => by omega)
            have hS := uW.heap ES.out (by omega)
            have hRz := uW.heap E1.out (by omega)
            have tS := TS.out.upd uW (fun b hb e => by have := HBS.out b hb; omega)
            obtain ⟨gS, cS', eS', hgS, y0, y1, y2, y3⟩ := tS.at hlt
            obtain ⟨cQ, fQ⟩ := blk1c hc.1.2
            obtain ⟨cS, fS⟩ := blk1c hS
            obtain ⟨cR, fR⟩ := blk1c hRz
            rw [eS'] at cS
            obtain ⟨x0, x1, x2, x3⟩ := blk4t hbx
            have hpre := pre_snoc (x := x) hc.2 hlt
            have p0 : (0 : Int) ≤ (pre.length : Int) := by omega
            have p1 : (pre.length : Int) < (allR s).length := by omega
            have p2 : (pre.length : Int) ≤ 1048577 := by have := allR_len2 s hs20; omega
            have pg : decide ((allR s).length ≤ pre.length) = false := by simp; omega
            have pg2 : decide (((allR s).length : Int) ≤ (pre.length : Int)) = false := by simp; omega
            have ep : IntKind.i64.wrap ((pre.length : Int) + 1) = (pre.length : Int) + 1 := IntWalk.i64_in _ (by omega)
            generalize hy : (allR s)[pre.length] = y at *
            have HC := Lib.hid hc
            have HX := Lib.hid hpre
            have HR := Lib.hid hRz
            have HQ := Lib.hid hc.1.2
            clear hy hc hpre hRz hS tS uW eS' hbx
            cases hxy : tokB x y with
            | true =>
              have hxe := HX.out.2 (tokB_iff.1 hxy)
              have HE := Lib.hid hxe
              clear hxe
              gi_wp2
              refine wpIn_quietR (by kernel_rfl) (by kernel_rfl) (by kernel_rfl) ?_
              repeat (gi_big_quiet_step (fail))
              refine wpQuietIn_nil ?_
              intro _ hw'
              obtain ⟨nq, hw''⟩ := hw'
              subst hw''
              gi_wp2
              have hKP := (Kpt.new ((Upd.refl (fun _ => False) W).drewN nq)).trans (Kpt.set (W := W.drewN nq) (i := 0) (u := .int .i64 ((pre.length : Int) + 1)) HQ.out (by decide))
              have hcd : Cnt Wi w9.heap.size (allR s) pre (W.drewN nq) := ⟨⟨HC.out.1.1.drewN _, HC.out.1.2⟩, HC.out.2⟩
              exact ⟨hKP.1.from _, hKP.2, hcd.next HE.out rfl⟩
            | false =>
              have hne : ¬ pre ++ [x] <+: allR s := fun h => by have := tokB_iff.2 (HX.out.1 h); rw [hxy] at this; cases this
              have HE := Lib.hid hne
              clear hne
              gi_wp2
              refine wpIn_quietR (by kernel_rfl) (by kernel_rfl) (by kernel_rfl) ?_
              repeat (gi_big_quiet_step (fail))
              refine wpQuietIn_nil ?_
              intro _ hw'
              obtain ⟨nq, hw''⟩ := hw'
              subst hw''
              gi_wp2
              have hKP := (Kpt.new ((Upd.refl (fun _ => False) W).drewN nq)).trans (Kpt.set (W := W.drewN nq) (i := 0) (u := .bool false) HR.out (by decide))
              exact ⟨hKP.1.from _, HE.out⟩
          case done2 =>
            rintro W5 hc
            have nq5 : New Wq W5 := NI.out.trans' hc.1.1 (fun b hb e => by omega)
            have hS5 := (UI.out.trans' hc.1.1 (fun b hb e => by omega)).heap ES.out (by omega)
            obtain ⟨cS, fS⟩ := blk1c hS5
            obtain ⟨cQ, fQ⟩ := blk1c hc.1.2
            have N5 := Lib.hid nq5
            clear hc nq5 hS5
            gi_wp2
            have hk5 := KP.out.trans (Kpt.new N5.out)
            exact ⟨hk5.1.from _, hk5.2, Q1.out.trans (N5.out.mono fun _ _ x => x.elim), Q2.out.new N5.out⟩
      case done1 =>
        rintro D W2 hD ⟨hu2, v8, hb8, ho8, hv8⟩ hK
        obtain ⟨A8, c8, rfl⟩ := Bk.own_form ho8
        have n2 : New w7 W2 := N71.out.trans' hu2 (fun b hb e => by omega)
        have hL2 := (HP7.out.new n2).mark hK (by omega) (fun hm => by have := (Array.getElem?_eq_some_iff.1 (HP7.out.marks D hm).2).1; omega)
        have LS2 := Lib.hid hL2
        have U2 := Lib.hid hL2.upd
        have HO8 := Lib.hid ho8
        have TS2 := Lib.hid (TS.out.upd hL2.upd (fun b hb e => by have := HBS.out b hb; omega))
        have hI2 := hL2.upd.heap EI.out (by omega)
        have hS2 := hL2.upd.heap ES.out (by omega)
        have lI := (Array.getElem?_eq_some_iff.1 hI2).1
        have lS : X < W2.heap.size := by omega
        have hs2 := n2.size
        obtain ⟨cI, fI⟩ := blk1c hI2
        obtain ⟨cS, fS⟩ := blk1c hS2
        obtain ⟨cA, fA⟩ := blk1c hb8
        have hsa := Lib.hid (allR_len s hs20)
        clear hI2 hS2 hL2 ho8 hb8 hv8 hu2 n2 hK
        gi_wp2_with (refine ⟨trivial, ?_⟩; gi_at_call 19; refine (callsIn_wide.2 (sameTokens_calls (TokRd.of_own HO8.out) TS2.out hsa.out)).mono ?_; rintro e w8 ⟨rfl, hu8⟩; have N8 := Lib.hid hu8; have hI8 := hu8.heap (U2.out.heap EI.out (by omega)) (fun x => x); have hs8 := hu8.size; clear cI fI lI cS fS cA fA lS hu8; have lI := (Array.getElem?_eq_some_iff.1 hI8).1; obtain ⟨cI, fI⟩ := blk1c hI8; clear hI8)
        have hn83 := (Upd.refl (fun _ => False) w8).alloc (.cells #[.int .i64 0] 3)
        have hq3 := heap_alloc_new w8 (.cells #[.int .i64 0] 3)
        have hs3 : (w8.alloc (.cells #[.int .i64 0] 3)).heap.size = w8.heap.size + 1 := by simp
        have hl3 := LS2.out.new (N8.out.trans hn83)
        generalize w8.alloc (.cells #[.int .i64 0] 3) = W3 at *
        have LS3 := Lib.hid hl3
        have U3 := Lib.hid hl3.upd
        have HQ3 := Lib.hid hq3
        have WN3 := Lib.hid (hl3.upd.heap EN.out (by omega))
        have N83 := Lib.hid hn83
        clear hn83 hq3 hl3 cI fI lI
        refine range_tokH (n := 8) (b := 23) (by decide) rfl HS.out WN3.out (Cnt W3 w8.heap.size (allR s)) (fun c pre W => (c = .exit 6 ∧ Cnt W3 w8.heap.size (allR s) pre W) ∨ ¬ pre <+: allR s) (cnt_own (Nat.le_refl _)) (fun c pre X Y row h hg hr => h.imp (fun h => ⟨h.1, cnt_own (Nat.le_refl _) pre X Y row h.2 hg hr⟩) id)
          ⟨⟨Upd.refl _ _, HQ3.out⟩, List.nil_prefix⟩ (fun pre W h => h.1.1.size) ?assign3 ?body3 ?done3 ?stop3
        case assign3 =>
          intro l x W K hK
          simp only [Tok.v, tokV, List.setIfInBounds_toArray, List.set_cons_succ, List.set_cons_zero] at hK ⊢
          gi_wp2
          exact hK
        case body3 =>
          rintro l pre x Bx W hl hr hc hBx hbx hlt
          simp only [Tok.v, tokV, List.setIfInBounds_toArray, List.set_cons_succ, List.set_cons_zero]
          have uW := U3.out.trans' hc.1.1 (fun b hb e => by omega)
          have hM := uW.heap E0.out (by omega)
          have hS := uW.heap ES.out (by omega)
          have hRz := uW.heap E1.out (by omega)
          have tS := TS.out.upd uW (fun b hb e => by have := HBS.out b hb; omega)
          obtain ⟨gS, cS', eS', hgS, y0, y1, y2, y3⟩ := tS.at hlt
          obtain ⟨cQ, fQ⟩ := blk1c hc.1.2
          obtain ⟨cM, fM⟩ := blk1c hM
          obtain ⟨cS, fS⟩ := blk1c hS
          obtain ⟨cR, fR⟩ := blk1c hRz
          rw [eS'] at cS
          obtain ⟨x0, x1, x2, x3⟩ := blk4t hbx
          have hpre := pre_snoc (x := x) hc.2 hlt
          have p0 : (0 : Int) ≤ (pre.length : Int) := by omega
          have p1 : (pre.length : Int) < (allR s).length := by omega
          have p2 : (pre.length : Int) ≤ 1048577 := by have := allR_len2 s hs20; omega
          have pg : decide ((allR s).length ≤ pre.length) = false := by simp; omega
          have pg2 : decide (((allR s).length : Int) ≤ (pre.length : Int)) = false := by simp; omega
          have ep : IntKind.i64.wrap ((pre.length : Int) + 1) = (pre.length : Int) + 1 := IntWalk.i64_in _ (by omega)
          generalize hy : (allR s)[pre.length] = y at *
          have HC := Lib.hid hc
          have HX := Lib.hid hpre
          have HR := Lib.hid hRz
          have HQ := Lib.hid hc.1.2
          clear hy hc hpre hRz hM hS tS uW eS' hbx
          cases hxy : tokB x y with
          | true =>
            have hxe := HX.out.2 (tokB_iff.1 hxy)
            have HE := Lib.hid hxe
            clear hxe
            cases hm : ((pre.length : Int) + 1 == m) with
            | true =>
              gi_wp2
              refine wpIn_quietR (by kernel_rfl) (by kernel_rfl) (by kernel_rfl) ?_
              repeat (gi_big_quiet_step (fail))
              refine wpQuietIn_nil ?_
              intro _ hw'
              obtain ⟨nq, hw''⟩ := hw'
              subst hw''
              gi_wp2
              have hKP := (Kpt.new ((Upd.refl (fun _ => False) W).drewN nq)).trans (Kpt.set (W := W.drewN nq) (i := 0) (u := .int .i64 ((pre.length : Int) + 1)) HQ.out (by decide))
              have hcd : Cnt W3 w8.heap.size (allR s) pre (W.drewN nq) := ⟨⟨HC.out.1.1.drewN _, HC.out.1.2⟩, HC.out.2⟩
              exact ⟨hKP.1.from _, .inl ⟨rfl, hcd.next HE.out rfl⟩⟩
            | false =>
              gi_wp2
              refine wpIn_quietR (by kernel_rfl) (by kernel_rfl) (by kernel_rfl) ?_
              repeat (gi_big_quiet_step (fail))
              refine wpQuietIn_nil ?_
              intro _ hw'
              obtain ⟨nq, hw''⟩ := hw'
              subst hw''
              gi_wp2
              have hKP := (Kpt.new ((Upd.refl (fun _ => False) W).drewN nq)).trans (Kpt.set (W := W.drewN nq) (i := 0) (u := .int .i64 ((pre.length : Int) + 1)) HQ.out (by decide))
              have hcd : Cnt W3 w8.heap.size (allR s) pre (W.drewN nq) := ⟨⟨HC.out.1.1.drewN _, HC.out.1.2⟩, HC.out.2⟩
              exact ⟨hKP.1.from _, hKP.2, hcd.next HE.out rfl⟩
          | false =>
            have hne : ¬ pre ++ [x] <+: allR s := fun h => by have := tokB_iff.2 (HX.out.1 h); rw [hxy] at this; cases this
            have HE := Lib.hid hne
            clear hne
            gi_wp2
            refine wpIn_quietR (by kernel_rfl) (by kernel_rfl) (by kernel_rfl) ?_
            repeat (gi_big_quiet_step (fail))
            refine wpQuietIn_nil ?_
            intro _ hw'
            obtain ⟨nq, hw''⟩ := hw'
            subst hw''
            gi_wp2
            have hKP := (Kpt.new ((Upd.refl (fun _ => False) W).drewN nq)).trans (Kpt.set (W := W.drewN nq) (i := 0) (u := .bool false) HR.out (by decide))
            exact ⟨hKP.1.from _, .inr HE.out⟩
        case done3 =>
          rintro D' W4 hD' hc hK
          have n3 : New w8 W4 := N83.out.trans' hc.1.1 (fun b hb e => by omega)
          have hl4 := (LS2.out.new (N8.out.trans n3)).mark hK (by have := n3.size; omega) (fun hm => by have := (Array.getElem?_eq_some_iff.1 ((LS2.out.new N8.out).marks D' hm).2).1; omega)
          have HL4 := Lib.hid hl4
          clear hl4 n3 hK hc
          gi_wp2
          refine ⟨inv_of (k + 1) (D' :: D :: Ds) (by omega) rfl HL4.out rfl, ?_⟩
          show 2 - (intOf (.int .i64 ((k : Int) + 1))).toNat < 2 - (intOf (.int .i64 (k : Int))).toNat
          simp only [intOf]
          omega
        case stop3 =>
          rintro D' c pre W4 hD' hp (⟨rfl, hc⟩ | hc) hK
          · skip
            have n3 : New w8 W4 := N83.out.trans' hc.1.1 (fun b hb e => by omega)
            have hl4 := (LS2.out.new (N8.out.trans n3)).mark hK (by have := n3.size; omega) (fun hm => by have := (Array.getElem?_eq_some_iff.1 ((LS2.out.new N8.out).marks D' hm).2).1; omega)
            have HL4 := Lib.hid hl4
            clear hl4 n3 hK hc
            gi_wp2
            refine ⟨inv_of (k + 1) (D' :: D :: Ds) (by omega) rfl HL4.out rfl, ?_⟩
            show 2 - (intOf (.int .i64 ((k : Int) + 1))).toNat < 2 - (intOf (.int .i64 (k : Int))).toNat
            simp only [intOf]
            omega
          · exact absurd hp hc
    · skip
      have hkk : k = 2 := by omega
      subst hkk
      obtain ⟨T, vs, ns, xs, hb1, hb2, hb3⟩ := HL.out.book
      obtain ⟨G, cap, rfl⟩ := Bk.own_some hb1.own (by omega)
      have hG := Bk.own_lt hb1.own G rfl
      have HOWN := Lib.hid (own_calls (ns := ns) (xs := xs) hb1 ⟨fun j hj => (Bk.own_at hb1.own j (vs j) (by simp [hj])).1, fun j hj => (hb2 j hj).1, hb3, fun j hj e => (hb2 j hj).2.2 G e rfl⟩ hG (by omega) (fun j hj => (hb2 j hj).2.1) (by omega))
      have hR2 := HL.out.upd.heap E1.out (by omega)
      have HR2 := Lib.hid hR2
      clear hb1 hb2 hb3 hG hR2
      gi_wp2_with (refine ⟨trivial, ?_⟩; gi_at_call 21; refine (callsIn_wide.2 HOWN.out).mono ?_; rintro e w9 ⟨rfl, hu9⟩; have hR9 := hu9.upd.heap HR2.out (by omega); obtain ⟨cR, fR⟩ := blk1c hR9; have HR9 := Lib.hid hR9; have HU9 := Lib.hid hu9; clear hR9 hu9)
      have us : Upd (fun b => b = w.heap.size + 1) w9 (w9.setCell ⟨w.heap.size + 1, 0, none⟩ (.bool true)) := (Upd.refl (fun b => b = w.heap.size + 1) w9).set rfl _
      refine leaves_marks Ds _ HL.out.nodup (fun D hD => us.heap (HU9.out.rest D _ (HL.out.marks D hD).2 (fun c t f e => by cases e)) (by have := (HL.out.marks D hD).1; omega)) (fun w' hw' => ?_)
      have hc9 : (w9.setCell ⟨w.heap.size + 1, 0, none⟩ (.bool true)).heap[w.heap.size + 1]? = some (.cells #[.bool true] 4 (0, 0)) := by
        have := heap_setCell_same w9 (w.heap.size + 1) 0 _ 4 (.bool true) HR9.out
        simpa using this
      have hc := (blk1c (hw'.heap hc9 (fun hm => by have := (HL.out.marks _ hm).1; omega))).1
      refine ⟨.bool true, ?_, rfl, ?_⟩
      · simp [results, Try.f8, go_sem, hc]
      · exact (((HN0.out.trans' HL.out.upd (fun b hb e => by omega)).trans' HU9.out.upd (fun b hb e => by have e : X + 1 + 1 + 1 + 1 ≤ b := e; omega)).trans' us (fun b hb e => by omega)).trans' hw' (fun b hb e => by have := (HL.out.marks _ e).1; omega)

set_option maxHeartbeats 4000000 in
set_option maxRecDepth 100000 in
theorem lextokens_long (s : ByteArray) (m : Int) (w : World) (hsz : decide ((1048576 : Int) < s.size) = true) : Calls Try.prog 8 #[.string s, .int .i64 m] w fun e w' => e = .returned (.bool true) ∧ New w w' := by
  refine (callsIn_wide (n := 8)).1 ?_
  refine callsIn_of_wp_marks Try.func8 rfl trivial ?_ rfl
  simp only [Try.ntmps8, List.size_toArray, List.length_cons, List.length_nil, Nat.reduceAdd, Nat.reduceSub, Array.replicate_succ, Array.replicate_zero, List.push_toArray, List.append_toArray, List.nil_append, List.cons_append]
  have hn0 := ((Upd.refl (fun _ => False) w).alloc (.cells #[.int .i64 m] 3)).alloc (.cells #[.bool false] 4)
  have h0 := alloc2 w (.cells #[.int .i64 m] 3) (.cells #[.bool false] 4)
  have HN0 := Lib.hid hn0
  have HO := Lib.hid h0
  clear hn0 h0
  gi_wp2_with (refine ⟨trivial, ?_⟩; gi_at_call 9; refine (callsIn_wide.2 (works_calls _)).mono ?_; rintro e w1 ⟨rfl, hu1⟩; have HU1 := Lib.hid hu1; have h1 := hu1.heap HO.out (fun x => x); have l1 := (Array.getElem?_eq_some_iff.1 h1).1; obtain ⟨cR, fR⟩ := blk1c h1; have H1 := Lib.hid h1; clear hu1 h1)
  have hc9 : (w1.setCell ⟨w.heap.size + 1, 0, none⟩ (.bool true)).heap[w.heap.size + 1]? = some (.cells #[.bool true] 4 (0, 0)) := by
    have := heap_setCell_same w1 (w.heap.size + 1) 0 _ 4 (.bool true) H1.out
    simpa using this
  have hc := (blk1c hc9).1
  refine ⟨.bool true, ?_, rfl, ?_⟩
  · simp [results, Try.f8, go_sem, hc]
  · exact (HN0.out.trans HU1.out).trans' ((Upd.refl (fun b => b = w.heap.size + 1) w1).set rfl _) (fun b hb e => by omega)
theorem lextokens_all (s : ByteArray) (m : Int) (w : World) : Calls Try.prog 8 #[.string s, .int .i64 m] w fun e w' => e = .returned (.bool true) ∧ New w w' := by
  cases hsz : decide ((1048576 : Int) < s.size) with
  | true => exact lextokens_long s m w hsz
  | false => exact lextokens_calls s m w hsz
end Go.Proofs.Ytecoahdeafobkaa
