/- Read: the law ReadDoes, walked. -/
import Derived.Test.YtnnjhafjcdjobaaRmM
import Derived.Test.YtnnjhafjcdjobaaBkM
import Derived.Test.YtnnjhafjcdjobaaLwC
namespace Go.Proofs.Ytnnjhafjcdjobaa
open Go.RowKit
set_option linter.unusedVariables false
set_option linter.unusedSimpArgs false

theorem blocksR_mem {RL : List Rw} {r : Rw} {b : Nat} (hr : r ∈ RL) (hb : r.v.ownBlock = some b) : b ∈ blocksR RL := List.mem_flatMap.2 ⟨r, hr, by rw [hb]; simp⟩
theorem blocksR_apart : ∀ (RL : List Rw), (blocksR RL).Nodup → ∀ (i j : Nat) (hi : i < RL.length) (hj : j < RL.length), i ≠ j → Bk.Apart RL[i].v RL[j].v := by
  intro RL
  induction RL with
  | nil => intro _ i j hi; simp at hi
  | cons r RL ih =>
    intro hnd i j hi hj hne
    have h1 : (r.v.ownBlock.toList ++ blocksR RL).Nodup := by simpa [blocksR] using hnd
    obtain ⟨_, h2, h3⟩ := List.nodup_append.1 h1
    have h4 : ∀ (j : Nat) (hj : j < RL.length) (b : Nat), r.v.ownBlock = some b → RL[j].v.ownBlock ≠ some b := fun j hj b hb e =>
      h3 b (by rw [hb]; simp) b (blocksR_mem (List.getElem_mem hj) e) rfl
    cases i with
    | zero =>
      cases j with
      | zero => exact absurd rfl hne
      | succ j => intro b hb; simp only [List.getElem_cons_zero, List.getElem_cons_succ] at hb ⊢; exact h4 j (by simpa using hj) b hb
    | succ i =>
      cases j with
      | zero => intro b hb e; simp only [List.getElem_cons_zero, List.getElem_cons_succ] at hb e; exact h4 i (by simpa using hi) b e hb
      | succ j => simp only [List.getElem_cons_succ]; exact ih h2 i j (by simpa using hi) (by simpa using hj) (by omega)
/-- The book's Own tells the truth. -/
theorem book_own {w : World} {B0 Bb : Nat} {T : Value} {RL : List Rw} (hB : BookL w B0 Bb T RL) (hR : RowsOk w B0 RL) (hnd : (blocksR RL).Nodup) (hT : ∀ b ∈ blocksR RL, T.ownBlock ≠ some b) (hm : RL.length ≤ 1000000) (h0 : 0 < RL.length) (hb : ¬ B0 ≤ Bb) :
    Calls Try.prog 19 #[.pointer (some ⟨Bb, 0, none⟩)] w fun e w' => e = .returned (.bool true) ∧ Upd (fun b => B0 ≤ b) w w' := by
  obtain ⟨G, cap, rfl⟩ := own_some hB.own h0
  have hG := own_lt hB.own G rfl
  let vs : Nat → Value := fun j => (RL.getD j ⟨.slice none 0 0, 0, []⟩).v
  let ns : Nat → Nat := fun j => (RL.getD j ⟨.slice none 0 0, 0, []⟩).n
  let xs : Nat → List Value := fun j => (RL.getD j ⟨.slice none 0 0, 0, []⟩).xs
  have hd : ∀ j (hj : j < RL.length), RL.getD j ⟨.slice none 0 0, 0, []⟩ = RL[j] := fun j hj => by simp [List.getD, List.getElem?_eq_getElem hj]
  have hmap : RL.map Rw.v = (List.range RL.length).map vs := by
    refine List.ext_getElem (by simp) fun j h1 h2 => ?_
    have hj : j < RL.length := by simpa using h1
    simp [vs, hd j hj, hj]
  refine own_calls (G := G) (m := RL.length) (cap := cap) (vs := vs) (ns := ns) (xs := xs) ⟨hB.box, hmap ▸ hB.own, hB.ne⟩ ⟨?_, ?_, ?_, ?_⟩ hG hm ?_ hb
  · intro j hj
    refine (Bk.own_at hB.own j _ ?_).1
    simp [vs, List.getElem?_eq_getElem hj]
  · intro j hj
    show w.ownsRow B0 58 5 (RL.getD j _).v (RL.getD j _).n (RL.getD j _).xs
    rw [hd j hj]
    exact (hR _ (List.getElem_mem hj)).1
  · intro i j hi hj hne
    show Bk.Apart (RL.getD i _).v (RL.getD j _).v
    rw [hd i hi, hd j hj]
    exact blocksR_apart RL hnd i j hi hj hne
  · intro j hj e
    replace e : (RL.getD j ⟨.slice none 0 0, 0, []⟩).v.ownBlock = some G := e
    rw [hd j hj] at e
    exact hT G (blocksR_mem (List.getElem_mem hj) e) rfl
  · intro j hj
    show (RL.getD j _).n ≤ _
    rw [hd j hj]
    have := (hR _ (List.getElem_mem hj)).2
    omega
/-- Read's answer, whatever it is. -/
theorem readR_any (s : ByteArray) (hs : Small s) : ∃ (l : List Dat) (er a : Int), manyL l ≤ 10000 ∧ ∀ w e w', ReadPost w (readR s) e w' → ∃ kv bs, e = .returned (.tuple #[kv, .int .i64 er, .int .i64 a]) ∧ New w w' ∧ Own w' w.heap.size kv l bs ∧ bs.Nodup := by
  cases hr : readR s with
  | ok l i m =>
    refine ⟨l, 0, 0, ?_, fun w e w' h => h⟩
    unfold readR at hr
    by_cases h : (tokR s).2.1 ≠ 0
    · rw [if_pos h] at hr; cases hr
    · rw [if_neg h] at hr
      exact (read_got hs (fun x => h ((tokR_bad s).1 x)) hr).2.2.1
  | bad er a => exact ⟨[], er, a, by simp [manyL], fun w e w' h => ⟨_, [], h.1, h.2, Own.nil _ _, List.nodup_nil⟩⟩
  | out =>
    exfalso
    unfold readR at hr
    by_cases h : (tokR s).2.1 ≠ 0
    · rw [if_pos h] at hr; cases hr
    · rw [if_neg h] at hr
      exact read_fine s (fun x => h ((tokR_bad s).1 x)) hr

/-- In the law's loop: the book, what was wanted. -/
structure RdL (w0 : World) (l : List Dat) (Bb b0 : Nat) (kv0 : Value) (bs0 : List Nat) (k : Nat) (w : World) : Prop where
  book : ∃ RL T, RL.length = k * (1 + manyL l) ∧ (blocksR RL).Nodup ∧ RowsOk w (Bb + 1) RL ∧ BookL w (Bb + 1) Bb T RL ∧ ∀ b ∈ blocksR RL, T.ownBlock ≠ some b
  upd : New w0 w
  want : Own w b0 kv0 l bs0
  old : ∀ b ∈ bs0, b < Bb
  lB : w0.heap.size ≤ Bb
  sz : Bb + 1 ≤ w.heap.size
theorem rdl_next {w0 w w1 w2 : World} {l : List Dat} {Bb b0 k : Nat} {kv0 kv : Value} {bs0 bs : List Nat} (h : RdL w0 l Bb b0 kv0 bs0 k w) (hn : New w w1) (ho : Own w1 w.heap.size kv l bs) (hnd : bs.Nodup) (RL : List Rw) (T : Value) (hl : RL.length = k * (1 + manyL l)) (h1 : (blocksR RL).Nodup)
    (h2 : RowsOk w (Bb + 1) RL) (h3 : BookL w (Bb + 1) Bb T RL) (h4 : ∀ b ∈ blocksR RL, T.ownBlock ≠ some b) (RL2 : List Rw) (T2 : Value) (a1 : blocksR RL2 = bs) (a2 : RL2.length = 1 + manyL l) (a3 : RowsOk w2 (Bb + 1) RL2) (a4 : BookL w2 (Bb + 1) Bb T2 (RL ++ RL2))
    (a5 : Upd (fun b => b = Bb ∨ T.ownBlock = some b) w1 w2) (a6 : T2.ownBlock = T.ownBlock ∨ ∀ b, T2.ownBlock = some b → w1.heap.size ≤ b) : RdL w0 l Bb b0 kv0 bs0 (k + 1) w2 := by
  have hsz := hn.size
  have hsz2 := a5.size
  have hsz0 := h.sz
  have hTb : ∀ b, T.ownBlock = some b → Bb + 1 ≤ b ∧ b < w.heap.size := own_lt h3.own
  have hold : ∀ b ∈ blocksR RL, Bb + 1 ≤ b ∧ b < w.heap.size := by
    intro b hb
    obtain ⟨r, hr, hb⟩ := List.mem_flatMap.1 hb
    exact own_lt (h2 r hr).1 b (by simpa using hb)
  have hnew : ∀ b ∈ bs, w.heap.size ≤ b ∧ b < w1.heap.size := ho.blocks
  refine ⟨⟨RL ++ RL2, T2, ?_, ?_, ?_, a4, ?_⟩, ?_, ?_, h.old, h.lB, by omega⟩
  · rw [List.length_append, hl, a2, Nat.add_mul, Nat.one_mul]
  · rw [blocksR_app, a1]
    refine List.nodup_append.2 ⟨h1, hnd, fun a ha b hb e => ?_⟩
    have := hold a ha
    have := hnew b hb
    omega
  · intro r hr
    rcases List.mem_append.1 hr with hr | hr
    · refine ⟨a5.ownsRow (hn.ownsRow (h2 r hr).1 (fun _ _ x => x)) (fun b hb e => ?_), (h2 r hr).2⟩
      have hm := blocksR_mem hr hb
      rcases e with e | e
      · have := hold b hm; omega
      · exact h4 b hm e
    · exact a3 r hr
  · intro b hb e
    rw [blocksR_app, a1] at hb
    rcases List.mem_append.1 hb with hb | hb
    · rcases a6 with h6 | h6
      · exact h4 b hb (h6 ▸ e)
      · have := h6 b e; have := hold b hb; omega
    · have := hnew b hb
      rcases a6 with h6 | h6
      · have := hTb b (h6 ▸ e); omega
      · have := h6 b e; omega
  · have := h.lB
    refine (h.upd.trans hn).trans' a5 (fun b hb e => ?_)
    rcases e with e | e
    · omega
    · have := hTb b e; omega
  · refine (h.want.upd hn (fun _ _ x => x)).upd a5 (fun b hb e => ?_)
    have := h.old b hb
    rcases e with e | e
    · omega
    · have := hTb b e; omega

set_option maxHeartbeats 8000000 in
set_option maxRecDepth 100000 in
theorem readdoes_all (s : ByteArray) (w : World) : Calls Try.prog 4 #[.string s] w fun e w' => e = .returned (.bool true) ∧ New w w' := by
  cases hsz : decide ((200000 : Int) < s.size) with
  | true =>
    go_enter Try.func4, Try.ntmps4
    go_wp2_with fail
    refine (works_calls _).mono ?_
    rintro e w1 ⟨rfl, hu1⟩
    have HU1 := Lib.hid hu1
    clear hu1
    go_wp2_with fail
    go_ret
    exact ⟨rfl, HU1.out⟩
  | false =>
    have hs : Small s := by have := of_decide_eq_false hsz; unfold Small; omega
    obtain ⟨l, er, a, hml, hany⟩ := readR_any s hs
    have R15 := Lib.hid (fun w => rread_any s hs w)
    have R16 := Lib.hid (fun w => read_any s hs w)
    have HA := Lib.hid hany
    have HM := Lib.hid hml
    have ee : (er != er) = false := by simp
    have ea : (a != a) = false := by simp
    have HSL := Lib.hid (sameL_true (rfl : l = l))
    clear hany hs hml
    go_enter Try.func4, Try.ntmps4
    go_wp2_with fail
    refine (works_calls _).mono ?_
    rintro e w1 ⟨rfl, hu1⟩
    have HU1 := Lib.hid hu1
    clear hu1
    go_wp2_with fail
    refine (R15.out _).mono ?_
    rintro e w2 hp
    obtain ⟨kv0, bs0, rfl, hu2, ho2, hnd2⟩ := HA.out _ _ _ hp
    obtain ⟨A0, c0, rfl, -⟩ := ho2.len
    have HU2 := Lib.hid (HU1.out.trans hu2)
    have HO2 := Lib.hid ho2
    have hs1 := HU1.out.size
    have hs2 := hu2.size
    clear hp hu2 ho2 hnd2
    dsimp only
    go_wp2_with fail
    have hst : RdL w l w2.heap.size w1.heap.size (.slice A0 l.length c0) bs0 0 (w2.alloc (.cells #[.slice none 0 0, .slice none 0 0, .slice none 0 0, .slice none 0 0, .slice none 0 0, .slice none 0 0, .slice none 0 0, .slice none 0 0, .slice none 0 0, .slice none 0 0, .slice none 0 0, .slice none 0 0, .slice none 0 0, .slice none 0 0, .slice none 0 0, .slice none 0 0, .slice none 0 0] 46)) :=
      ⟨⟨[], .slice none 0 0, by simp, by simp [blocksR], fun r hr => by simp at hr, ⟨heap_alloc_new w2 _, ⟨rfl, .inl ⟨rfl, rfl⟩⟩, by simp [Value.ownBlock]⟩, fun b hb => by simp [blocksR] at hb⟩, HU2.out.alloc _, HO2.out.alloc _, fun b hb => (HO2.out.blocks b hb).2, by omega, by simp⟩
    have HST := Lib.hid hst
    clear hst
    generalize w2.heap.size = Bb at *
    go_loopw [8] (fun ii wr => ∃ k : Nat, k ≤ 2 ∧ ii = .int .i64 k ∧ RdL w l Bb w1.heap.size (.slice A0 l.length c0) bs0 k wr) (fun ii _ => 2 - (intOf ii).toNat)
    case atStart => exact ⟨0, by omega, rfl, HST.out⟩
    case round =>
      obtain ⟨k, hk, rfl, hrel⟩ := hrel
      have HR := Lib.hid hrel
      clear hrel HST
      have k0 : (0 : Int) ≤ k := by omega
      have k1 : (k : Int) ≤ 2 := by omega
      have e1 : IntKind.i64.wrap ((k : Int) + 1) = (k : Int) + 1 := IntWalk.i64_in _ (by omega)
      by_cases hk2 : k < 2
      · have k2 : (k : Int) < 2 := by omega
        go_wp2_with fail
        refine (R16.out _).mono ?_
        rintro e w5 hp
        obtain ⟨kv, bs, rfl, hu5, ho5, hnd5⟩ := HA.out _ _ _ hp
        obtain ⟨A5, c5, rfl, -⟩ := ho5.len
        have HU5 := Lib.hid hu5
        have HO5 := Lib.hid ho5
        have HN5 := Lib.hid hnd5
        clear hp hu5 ho5 hnd5
        dsimp only
        go_wp2_with fail
        refine (sdata_calls l l _ _ w5 (own_sees HO5.out (by have := HM.out; omega)) (own_sees (HR.out.want.upd HU5.out (fun _ _ x => x)) (by have := HM.out; omega))).mono ?_
        rintro e w6 ⟨rfl, hu6⟩
        rw [HSL.out]
        have HU6 := Lib.hid hu6
        clear hu6
        go_wp2_with fail
        obtain ⟨RL, T, hl, h1, h2, h3, h4⟩ := HR.out.book
        have hn6 := HU5.out.trans HU6.out
        have ho6 := HO5.out.upd HU6.out (fun _ _ x => x)
        have hsr := HR.out.sz
        have hs6 := hn6.size
        have hmm := HM.out
        have hll : k * (1 + manyL l) ≤ 2 * 10001 := Nat.mul_le_mul hk (by omega)
        refine (bdata_calls (Bb + 1) Bb (Dat.mk 5 0 ⟨#[]⟩ l false) _ bs w6 T RL (ho6.mono hsr) ⟨hn6.heap h3.box (fun x => x), hn6.ownsRow h3.own (fun _ _ x => x), h3.ne⟩
          (fun b hb e => by have := (ho6.blocks b hb).1; have := (own_lt h3.own b e).2; omega) (fun hb => by have := (ho6.blocks _ hb).1; omega) (by simp only [Dat.kids]; omega) (by omega)).mono ?_
        rintro e w7 ⟨rfl, RL2, T2, a1, a2, a3, a4, a5, a6⟩
        have hnx := rdl_next HR.out hn6 ho6 HN5.out RL T hl h1 h2 h3 h4 RL2 T2 a1 a2 a3 a4 a5 a6
        have HNX := Lib.hid hnx
        clear hnx a1 a2 a3 a4 a5 a6 hl h1 h2 h3 h4 hn6 ho6 hsr hs6 hmm hll
        go_wp2_with fail
        go_roundw
        case rel => exact ⟨k + 1, by omega, by go_num, HNX.out⟩
        case measure => simp [intOf]; omega
      · have hkk : k = 2 := by omega
        subst hkk
        obtain ⟨RL, T, hl, h1, h2, h3, h4⟩ := HR.out.book
        have hmm := HM.out
        have HOWN := Lib.hid (book_own h3 h2 h1 h4 (by omega) (by omega) (by omega))
        clear hl h1 h2 h3 h4 hmm
        go_wp2_with fail
        refine HOWN.out.mono ?_
        rintro e w7 ⟨rfl, hu7⟩
        have hfin := HR.out.upd.trans' hu7 (fun b hb e => by have := HR.out.lB; omega)
        have HF := Lib.hid hfin
        clear hu7 hfin
        go_wp2_with fail
        go_ret
        exact ⟨rfl, HF.out⟩
end Go.Proofs.Ytnnjhafjcdjobaa
