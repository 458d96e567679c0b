import Derived.Test.YtfoknglgnbceaaaShE
namespace Go.Proofs.Ytfoknglgnbceaaa
open Go.RowKit

theorem Try.info54 : (Try.prog.info? 54).map (fun i => (i.zero, i.size, i.bytes)) = some (some (.agg #[.bool false, .bool false]), 2, 2) := by kernel_rfl

theorem rborn_full (b : Nat) (t : Int) (v : Value) (S A : Nat → Bool) (inn : Bool) (w : World) (h : RfAt w b v S A 8 inn) :
    Calls Try.prog 18 #[.pointer (some ⟨b, 0, none⟩), .int .i64 t] w fun e w' => e = .returned (.tuple #[.int .i64 0, .int .i64 2]) ∧ w = w' := by
  have h0 := h.row
  obtain ⟨a, cap, rfl, hg⟩ := h.form
  clear hg
  go_enter Try.func18, Try.ntmps18
  go_wp2
  go_ret2
  exact ⟨rfl, rfl⟩

theorem rborn_no (b : Nat) (t : Int) (n : Nat) (v : Value) (S A : Nat → Bool) (inn : Bool) (w : World) (h : RfAt w b v S A n inn) (hn : n < 8) (ht : bornOk n t = false) :
    Calls Try.prog 18 #[.pointer (some ⟨b, 0, none⟩), .int .i64 t] w fun e w' => e = .returned (.tuple #[.int .i64 0, .int .i64 140]) ∧ w = w' := by
  have h0 := h.row
  obtain ⟨a, cap, rfl, hg⟩ := h.form
  clear hg
  have ht' : t ≠ 0 ∧ isB n t = false := by simpa [bornOk] using ht
  obtain ⟨hz, h1⟩ := ht'
  by_cases hneg : t < 0
  · go_enter Try.func18, Try.ntmps18
    go_wp2
    go_ret2
    exact ⟨rfl, rfl⟩
  · have hbig : (n : Int) < t := by simp [isB] at h1; omega
    go_enter Try.func18, Try.ntmps18
    go_wp2
    go_ret2
    exact ⟨rfl, rfl⟩

def rLaid (S : Nat → Bool) (inn : Bool) (t : Int) : Bool := inn && (decide (t = 0) || S (t.toNat - 1))

theorem one2 (x y : Bool) : ∀ u ∈ [Value.bool x, Value.bool y], u.oneCell' = true := by simp [Value.oneCell']
set_option maxHeartbeats 400000 in
theorem rborn_yes (b : Nat) (t : Int) (n : Nat) (v : Value) (S A : Nat → Bool) (inn : Bool) (w : World) (h : RfAt w b v S A n inn) (hn : n < 8) (ht : bornOk n t = true) :
    Calls Try.prog 18 #[.pointer (some ⟨b, 0, none⟩), .int .i64 t] w fun e w' => e = .returned (.tuple #[.int .i64 (n + 1), .int .i64 0]) ∧
      ∃ v', RfAt w' b v' (put S n (rLaid S inn t)) (put A n false) (n + 1) inn ∧ Upd (foot b v) w w' ∧ ∀ k, foot b v' k → foot b v k ∨ w.heap.size ≤ k := by
  have h0 := h.row
  have h1 := h.inn
  have hf0 := h.fr 0
  have hlt := h.lt
  obtain ⟨i0, hi0, hz0, hz1, hz2⟩ := info_parts Try.info54
  obtain ⟨a, cap, rfl, hg⟩ := h.form
  have hown := h.own
  have fin : ∀ (g cap' : Nat) (x : Bool) (w1 : World), x = rLaid S inn t →
      w1.ownsRow 0 54 2 (.slice (some ⟨g, 0, none⟩) (n + 1) cap') (n + 1) (pairs S A n ++ [.bool x, .bool false]) →
      (w.alloc (.cells #[.bool x, .bool false] 54)).grownBy w1 (Value.slice a n cap).ownBlock →
      ((Value.slice a n cap).ownBlock = some g ∨ g = w.heap.size + 1) → 
      w1.cell? ⟨b, 0, none⟩ = some (.slice a n cap) ∧ w1.frozen? ⟨b, 0, none⟩ = false ∧ RfAt (w1.setCell ⟨b, 0, none⟩ (.slice (some ⟨g, 0, none⟩) (n + 1) cap')) b (.slice (some ⟨g, 0, none⟩) (n + 1) cap') (put S n (rLaid S inn t)) (put A n false) (n + 1) inn ∧
      Upd (foot b (.slice a n cap)) w (w1.setCell ⟨b, 0, none⟩ (.slice (some ⟨g, 0, none⟩) (n + 1) cap')) ∧
      ∀ k, foot b (.slice (some ⟨g, 0, none⟩) (n + 1) cap') k → foot b (.slice a n cap) k ∨ w.heap.size ≤ k := by
    intro g cap' x w1 hx ho hgr hat
    have hu : Upd (fun k => (Value.slice a n cap).ownBlock = some k) w w1 := ((Upd.refl _ _).alloc _).grown hgr (fun k hk _ => hk)
    have hgb : g ≠ b := by
      rcases hat with hat | hat
      · intro e; exact h.ne (by rw [hat, e])
      · omega
    have hc0 := hu.cell h.row h.ne
    have hc1 := hu.cell h.inn h.ne
    refine ⟨hc0, (hu.frozen (a := ⟨b, 0, none⟩) hlt h.ne).trans (h.fr 0), ⟨by omega, World.cell?_setCell_same _ _ _ hc0, cell_set_ne hc1 (ne_off (by omega)), fun o => by
        rw [World.frozen?_setCell]; exact (hu.frozen (a := ⟨b, o, none⟩) hlt h.ne).trans (h.fr o), ?_, by simp [Value.ownBlock]; exact hgb⟩,
      (hu.mono (fun i _ hi => .inr hi)).set (by exact .inl rfl) _, ?_⟩
    · have e : pairs (put S n (rLaid S inn t)) (put A n false) (n + 1) = pairs S A n ++ [.bool x, .bool false] := by
        rw [pairs_succ, put_same, put_same, hx, pairs_congr _ _ S A n (fun i hi => ⟨put_other _ _ _ _ (by omega), put_other _ _ _ _ (by omega)⟩)]
      rw [e]
      exact ((Upd.refl (fun k => k = b) w1).set (by rfl) _).ownsRow ho (fun k hk e => hgb (by simp [Value.ownBlock] at hk; omega))
    · rintro k (hk | hk)
      · exact .inl (.inl hk)
      · have hk' : g = k := by simpa [Value.ownBlock] using hk
        subst hk'
        rcases hat with hat | hat
        · exact .inl (.inr hat)
        · right; omega
  have m3 : n + 1 ≤ maxLen := by unfold maxLen; omega
  have m4 : (n + 1) * 2 ≤ 140737488355328 := by omega
  have Fin := Lib.hid fin
  clear fin
  by_cases hz : t = 0
  · subst hz
    clear hg
    cases inn
    · have hx : false = rLaid S false 0 := rfl
      have Hx := Lib.hid hx; clear hx
      go_enter Try.func18, Try.ntmps18
      go_wp2_with (at_builtin; refine wpList_append_lies _ rfl _ _ 28 rfl 0 54 i0 (.agg #[.bool false, .bool false]) 2 2 Try.underlying28 hi0 hz0 hz1 hz2 rfl (by decide) _ _ _ rfl (hown.alloc _) ⟨w.heap.size, 0, none⟩ 1 1 [.bool _, .bool false] rfl rfl (World.news_of_block (heap_alloc_new w _)) (one2 _ _) (by decide) m3 m4 (Nat.zero_le _) (w.heap.size + 1) (World.size_alloc _ _) ?_; intro g cap' w1 ho hgr hat _; obtain ⟨e1, e2, e3, e4, e5⟩ := Fin.out g cap' _ w1 Hx.out ho hgr hat; clear hat)
      go_ret2
      exact ⟨rfl, _, e3, e4, e5⟩
    · have hx : true = rLaid S true 0 := rfl
      have Hx := Lib.hid hx; clear hx
      go_enter Try.func18, Try.ntmps18
      go_wp2_with (at_builtin; refine wpList_append_lies _ rfl _ _ 28 rfl 0 54 i0 (.agg #[.bool false, .bool false]) 2 2 Try.underlying28 hi0 hz0 hz1 hz2 rfl (by decide) _ _ _ rfl (hown.alloc _) ⟨w.heap.size, 0, none⟩ 1 1 [.bool _, .bool false] rfl rfl (World.news_of_block (heap_alloc_new w _)) (one2 _ _) (by decide) m3 m4 (Nat.zero_le _) (w.heap.size + 1) (World.size_alloc _ _) ?_; intro g cap' w1 ho hgr hat _; obtain ⟨e1, e2, e3, e4, e5⟩ := Fin.out g cap' _ w1 Hx.out ho hgr hat; clear hat)
      go_ret2
      exact ⟨rfl, _, e3, e4, e5⟩
  · have hi : isB n t = true := by simpa [bornOk, hz] using ht
    obtain ⟨hb1, hb2⟩ := isB_bounds hi
    have hzb : (t == 0) = false := by rw [beq_eq_false_iff_ne]; exact hz
    cases inn
    · clear hg
      have hx : false = rLaid S false t := rfl
      have Hx := Lib.hid hx; clear hx
      go_enter Try.func18, Try.ntmps18
      go_wp2_with (at_builtin; refine wpList_append_lies _ rfl _ _ 28 rfl 0 54 i0 (.agg #[.bool false, .bool false]) 2 2 Try.underlying28 hi0 hz0 hz1 hz2 rfl (by decide) _ _ _ rfl (hown.alloc _) ⟨w.heap.size, 0, none⟩ 1 1 [.bool _, .bool false] rfl rfl (World.news_of_block (heap_alloc_new w _)) (one2 _ _) (by decide) m3 m4 (Nat.zero_le _) (w.heap.size + 1) (World.size_alloc _ _) ?_; intro g cap' w1 ho hgr hat _; obtain ⟨e1, e2, e3, e4, e5⟩ := Fin.out g cap' _ w1 Hx.out ho hgr hat; clear hat)
      go_ret2
      exact ⟨rfl, _, e3, e4, e5⟩
    · obtain ⟨g0, rfl, _, hS, _, _⟩ := hg (by omega)
      have hs := hS (t.toNat - 1) (by omega)
      clear hS hg
      have hx : S (t.toNat - 1) = rLaid S true t := by simp [rLaid, hz]
      have Hx := Lib.hid hx; clear hx
      go_enter Try.func18, Try.ntmps18
      go_wp2_with (at_builtin; refine wpList_append_lies _ rfl _ _ 28 rfl 0 54 i0 (.agg #[.bool false, .bool false]) 2 2 Try.underlying28 hi0 hz0 hz1 hz2 rfl (by decide) _ _ _ rfl (hown.alloc _) ⟨w.heap.size, 0, none⟩ 1 1 [.bool _, .bool false] rfl rfl (World.news_of_block (heap_alloc_new w _)) (one2 _ _) (by decide) m3 m4 (Nat.zero_le _) (w.heap.size + 1) (World.size_alloc _ _) ?_; intro g cap' w1 ho hgr hat _; obtain ⟨e1, e2, e3, e4, e5⟩ := Fin.out g cap' _ w1 Hx.out ho hgr hat; clear hat)
      go_ret2
      exact ⟨rfl, _, e3, e4, e5⟩
end Go.Proofs.Ytfoknglgnbceaaa
