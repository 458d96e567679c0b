/- Read of a text whose tokens fail: the error and its place; the kinds of tokens; Read of the reference, as one answer. The reference's Read on a good text. -/
import Derived.Test.YtnnjhafjcdjobaaRlM
import Derived.Test.YtnnjhafjcdjobaaRdN
import Derived.Test.YtnnjhafjcdjobaaRsB
import Derived.Test.YtnnjhafjcdjobaaPlA
namespace Go.Proofs.Ytnnjhafjcdjobaa
open Go.RowKit
set_option linter.unusedVariables false
set_option linter.unusedSimpArgs false

theorem toks_kinds (s : ByteArray) (h0 : (toks s 0).2.1 = 0) : ∀ i, i < (toks s 0).1.length → 1 ≤ tokK (toks s 0).1 i ∧ tokK (toks s 0).1 i ≤ 9 := by
  intro i hi
  have hx := List.getElem?_eq_getElem hi
  simp only [tokK, hx]
  generalize (toks s 0).1[i] = x at *
  by_cases h9 : x.k = 9
  · omega
  · obtain ⟨p, y, hr, _⟩ := toks_reads s h0 i x hx h9
    obtain ⟨_, _, ⟨h3, _⟩ | ⟨_, _, _, _, _, he, hk, _⟩⟩ := hr
    · omega
    · rw [hk]
      unfold wE at he
      unfold wK
      rcases cls_lt (s.extract x.a p) with e | e | e | e | e | e <;> simp [e] at he ⊢
/-- What Read answers. -/
def readR (s : ByteArray) : PR (List Dat) := if (tokR s).2.1 ≠ 0 then .bad (tokR s).2.1 (tokR s).2.2 else readP (toks s 0).1
theorem tokR_bad (s : ByteArray) : tokErr s ↔ (tokR s).2.1 ≠ 0 := by
  unfold tokErr tokR
  by_cases h : (65536 : Int) < s.size
  · simp [h]
  · by_cases h2 : (toks s 0).2.1 = 0
    · simp [h, h2]
    · simp [h, h2]
theorem tokens_badR (s : ByteArray) (hs : Small s) (h : tokErr s) : ∀ w, Calls Try.prog 27 #[.string s] w fun e w' => e = .returned (.tuple #[.slice none 0 0, .int .i64 (tokR s).2.1, .int .i64 (tokR s).2.2]) ∧ New w w' := by
  have hsz := hs.le
  intro w
  unfold tokR
  by_cases hm : (65536 : Int) < s.size
  · rw [if_pos hm]
    have hd := decide_eq_true hm
    clear h
    go_enter Try.func27, Try.ntmps27
    go_wp2
    exact bodyPost_ret (results_tmp3 rfl _ _ _) rfl ⟨rfl, Upd.refl _ _⟩
  · rw [if_neg hm]
    have he : (toks s 0).2.1 ≠ 0 := h.resolve_left (by simpa using hm)
    rw [if_neg he]
    refine (tokens_calls s hs (by simpa using hm) w).mono fun e w' ⟨hn, h⟩ => ?_
    rcases h with ⟨_, h⟩ | ⟨h, _⟩
    · exact ⟨h, hn⟩
    · exact absurd h he
set_option maxHeartbeats 1000000 in
theorem read_badR (s : ByteArray) (er pl : Int) (e0 : (er != 0) = true) (h12 : ∀ w, Calls Try.prog 27 #[.string s] w fun e w' => e = .returned (.tuple #[.slice none 0 0, .int .i64 er, .int .i64 pl]) ∧ New w w') :
    ∀ w, Calls Try.prog 16 #[.string s] w fun e w' => e = .returned (.tuple #[.slice none 0 0, .int .i64 er, .int .i64 pl]) ∧ New w w' := by
  have H12 := Lib.hid h12
  intro w
  clear h12
  go_enter_defers Try.func16, Try.ntmps16
  go_wp2_with fail
  refine (H12.out _).mono ?_
  rintro e w1 ⟨rfl, hu⟩
  have h0 := hu.heap (k := w.heap.size) (by exact alloc31 _ _ _ _) (fun x => x)
  have h1 := hu.heap (k := w.heap.size + 1) (by exact alloc32 _ _ _ _) (fun x => x)
  have h2 := hu.heap (k := w.heap.size + 1 + 1) (by exact alloc33 _ _ _ _) (fun x => x)
  have HU := Lib.hid (((((Upd.refl (fun _ => False) w).alloc _).alloc _).alloc _).trans hu)
  obtain ⟨a0, f0⟩ := blk1 h0
  obtain ⟨a1, f1⟩ := blk1 h1
  obtain ⟨a2, f2⟩ := blk1 h2
  have l0 := (Array.getElem?_eq_some_iff.1 h0).1
  have H0 := Lib.hid h0
  have H1 := Lib.hid h1
  have H2 := Lib.hid h2
  clear hu h0 h1 h2
  go_wp2_with fail
  obtain ⟨g0, g1, g2⟩ := store12 H0.out H1.out H2.out (.int .i64 er) (.int .i64 pl)
  have hup : Upd (fun b => b = w.heap.size ∨ b = w.heap.size + 1 ∨ b = w.heap.size + 1 + 1) w ((w1.setCell ⟨w.heap.size + 1, 0, none⟩ (.int .i64 er)).setCell ⟨w.heap.size + 1 + 1, 0, none⟩ (.int .i64 pl)) := ((HU.out.mono (fun _ _ h => h.elim)).set (.inr (.inl rfl)) _).set (.inr (.inr rfl)) _
  generalize (w1.setCell ⟨w.heap.size + 1, 0, none⟩ (.int .i64 er)).setCell ⟨w.heap.size + 1 + 1, 0, none⟩ (.int .i64 pl) = W at *
  have nn : ∀ b, b < w.heap.size → ¬ (b = w.heap.size ∨ b = w.heap.size + 1 ∨ b = w.heap.size + 1 + 1) := by omega
  have hnew : ∀ W', Upd (fun b => b = w.heap.size ∨ b = w.heap.size + 1 ∨ b = w.heap.size + 1 + 1) w W' → New w W' := fun W' h => h.mono (fun b hb x => nn b hb x)
  generalize w.heap.size = B0 at *
  have n01 : ¬ B0 = B0 + 1 := by omega
  have n10 : ¬ B0 + 1 = B0 := by omega
  have n02 : ¬ B0 = B0 + 1 + 1 := by omega
  have n20 : ¬ B0 + 1 + 1 = B0 := by omega
  have n12 : ¬ B0 + 1 = B0 + 1 + 1 := by omega
  have n21 : ¬ B0 + 1 + 1 = B0 + 1 := by omega
  generalize B0 + 1 = B1 at *
  generalize B1 + 1 = B2 at *
  clear a0 f0 a1 f1 a2 f2 l0 H0 H1 H2 HU
  obtain ⟨a0, f0⟩ := blk1 g0
  obtain ⟨a1, f1⟩ := blk1 g1
  obtain ⟨a2, f2⟩ := blk1 g2
  have H0 := Lib.hid g0
  have H1 := Lib.hid g1
  have H2 := Lib.hid g2
  have HUP := Lib.hid hup
  have HN := Lib.hid hnew
  clear g0 g1 g2 hup hnew nn
  go_region_held3 (fun w' => w'.cell? ⟨B0, 0, none⟩ = some (.slice none 0 0) ∧ w'.cell? ⟨B1, 0, none⟩ = some (.int .i64 er) ∧ w'.cell? ⟨B2, 0, none⟩ = some (.int .i64 pl)) (simp [*, World.cell?_setCell_far, World.cell?_setCell_same']) (fail)
  all_goals
    clear a0 f0 a1 f1 a2 f2
    obtain ⟨k0, k1, k2⟩ := set3 H0.out H1.out H2.out n01 n02 n12 (.slice none 0 0) (.int .i64 er) (.int .i64 pl)
    have hup3 := ((HUP.out.set (b := B0) (i := 0) (.inl rfl) (.slice none 0 0)).set (b := B1) (i := 0) (.inr (.inl rfl)) (.int .i64 er)).set (b := B2) (i := 0) (.inr (.inr rfl)) (.int .i64 pl)
    go_wp2_with fail
    exact ⟨_, results_cells3 rfl _ _ B0 B1 B2 _ _ _ rfl rfl rfl (load23 (blk1 k0).1) (load24 (blk1 k1).1) (load3 (blk1 k2).1), rfl, HN.out _ hup3.drew⟩

/-- Read, of any text. -/
theorem read_any (s : ByteArray) (hs : Small s) (w : World) : Calls Try.prog 16 #[.string s] w (ReadPost w (readR s)) := by
  unfold readR
  by_cases h : (tokR s).2.1 ≠ 0
  · rw [if_pos h]
    exact read_badR s _ _ (by simpa using h) (tokens_badR s hs ((tokR_bad s).2 h)) w
  · rw [if_neg h]
    exact read_ok s hs (fun x => h ((tokR_bad s).1 x)) w
set_option maxHeartbeats 1000000 in
theorem rread_bad (s : ByteArray) (hs : Small s) (h : tokErr s) (w : World) : Calls Try.prog 15 #[.string s] w fun e w' => e = .returned (.tuple #[.slice none 0 0, .int .i64 (tokR s).2.1, .int .i64 (tokR s).2.2]) ∧ New w w' := by
  have h12 := rtokens_res s hs
  have e0 : ((tokR s).2.1 != 0) = true := by simpa using (tokR_bad s).1 h
  generalize tokR s = R at *
  have H12 := Lib.hid h12
  clear h12 h
  go_enter Try.func15, Try.ntmps15
  go_wp2_with fail
  refine (H12.out _).mono ?_
  rintro e w1 ⟨hu, v, rfl, ho⟩
  have HU := Lib.hid hu
  clear hu ho
  go_wp2_with fail
  exact bodyPost_ret (results_tmp3 rfl _ _ _) rfl ⟨rfl, HU.out⟩
end Go.Proofs.Ytnnjhafjcdjobaa

namespace Go.Proofs.Ytnnjhafjcdjobaa
open Go.RowKit
set_option linter.unusedVariables false
set_option linter.unusedSimpArgs false

theorem own_push {w w3 w3' w4 : World} {base rb c c1 : Nat} {A A1 : Option Addr} {es es2 : List El} (hks : ∀ e ∈ es, Own w base e.kv e.d.kids e.bs) (hrow : w.ownsRow base 58 5 (.slice A es.length c) es.length (elCells es)) (hnd : ((Value.slice A es.length c).ownBlock.toList ++ es.flatMap El.bs).Nodup)
    (hb : base ≤ w.heap.size) (hu : Upd (fun b => b = rb) w w3) (hrb : rb < base) (hw : ∀ e ∈ es2, Own w3 w.heap.size e.kv e.d.kids e.bs) (hnd2 : (es2.flatMap El.bs).Nodup) (hn : New w3 w3')
    (ho : w4.ownsRow base 58 5 (.slice A1 (es.length + es2.length) c1) (es.length + es2.length) (elCells es ++ elCells es2)) (hg : w3'.grownBy w4 (Value.slice A es.length c).ownBlock)
    (hat : (Value.slice A1 (es.length + es2.length) c1).ownBlock = (Value.slice A es.length c).ownBlock ∨ (Value.slice A1 (es.length + es2.length) c1).ownBlock = some w3'.heap.size) :
    ∃ bs', Own w4 base (.slice A1 (es.length + es2.length) c1) (es.map El.d ++ es2.map El.d) bs' ∧ bs'.Nodup ∧ Upd (fun b => (Value.slice A es.length c).ownBlock = some b) w3 w4 := by
  have hsz := hu.size
  have hszn := hn.size
  have hu0 : Upd (fun b => b = rb) w w3' := hu.trans (hn.mono fun _ _ x => x.elim)
  have hlt : ∀ a ∈ (Value.slice A es.length c).ownBlock.toList ++ es.flatMap El.bs, a < w.heap.size := by
    intro a ha
    rcases List.mem_append.1 ha with ha | ha
    · exact (own_lt hrow a (by simpa using ha)).2
    · obtain ⟨x, hx, hbx⟩ := List.mem_flatMap.1 ha
      exact ((hks x hx).blocks a hbx).2
  obtain ⟨bs', h1, h2, h3⟩ := own_grown (w := w3') (w1 := w4) (base := base) (v := .slice A es.length c) es es2
    (fun e he => by
      rcases List.mem_append.1 he with he | he
      · exact (hks e he).upd hu0 (fun b hb e2 => by have := ((hks e he).blocks b hb).1; omega)
      · exact ((hw e he).mono (by omega)).upd hn (fun _ _ x => x))
    ho hg hat (by
      rw [List.flatMap_append, ← List.append_assoc]
      refine List.nodup_append.2 ⟨hnd, hnd2, ?_⟩
      intro a ha b hb e
      have := hlt a ha
      obtain ⟨x, hx, hbx⟩ := List.mem_flatMap.1 hb
      have := ((hw x hx).blocks b hbx).1
      omega)
  exact ⟨bs', by rw [← List.map_append]; exact h1, h2, Upd.grown (hn.mono fun _ _ x => x.elim) hg fun b hb _ => hb⟩

/-- Read's loop, while all is well. -/
structure RTop (L : List Tok) (w0 : World) (rb tg tc : Nat) (r : PR (List Dat)) (gk : Nat) (w : World) (i m : Nat) (kids : List Dat) (A : Option Addr) (c : Nat) (bs : List Nat) : Prop where
  res : r = pTop L gk i m kids
  fuel : 2 * (L.length - i) + 1 ≤ gk
  lt : i < L.length
  many : m ≤ 10000
  par : RPar w rb tg L.length tc i (0 : Nat) m (.pointer none)
  toks : Toks w tg L
  upd : New w0 w
  own : Own w (rb + 1) (.slice A kids.length c) kids bs
  nodup : bs.Nodup
  len : kids.length ≤ i
/-- Read's loop, behind a fault. -/
structure RTLost (w0 : World) (rb tg tl tc : Nat) (r : PR (List Dat)) (w : World) (er : Int) (a g : Nat) (z1 z2 z3 : Int) : Prop where
  res : r = .bad er a
  par : RPar w rb tg tl tc z1 z2 z3 (.pointer (some ⟨g, 0, none⟩))
  err : w.heap[g]? = some (.cells #[.int .i64 er, .int .i64 a] 104 (0, 0))
  upd : New w0 w
theorem blk2 {w : World} {b : Nat} {t : TypeId} {v0 v1 : Value} (h : w.heap[b]? = some (.cells #[v0, v1] t (0, 0))) : w.cell? ⟨b, 0, none⟩ = some v0 ∧ w.cell? ⟨b, 1, none⟩ = some v1 := by
  refine ⟨?_, ?_⟩ <;> simp [World.cell?, h]

set_option maxHeartbeats 8000000 in
set_option maxRecDepth 100000 in
theorem rread_good (s : ByteArray) (hs : Small s) (h : ¬ tokErr s) (w : World) : Calls Try.prog 15 #[.string s] w (ReadPost w (readP (toks s 0).1)) := by
  have h12 := rtokens_res s hs
  have hL := toks_endL s h
  have hK := toks_kinds s (tokErr_not h).2
  have hR : tokR s = ((toks s 0).1, 0, 0) := by
    have h1 := tokErr_not h
    unfold tokR
    rw [if_neg (by simpa using of_decide_eq_false h1.1), if_pos h1.2]
  have hl : ((toks s 0).1.length : Int) ≤ 1048577 := by
    have h3 := toks_len s _ 0 rfl (Nat.zero_le _)
    have h4 := of_decide_eq_false (tokErr_not h).1
    omega
  obtain ⟨i0, hi0, hz0, hz1, hz2⟩ := info_parts info58
  rw [hR] at h12
  generalize (toks s 0).1 = L at *
  have HD := Lib.hid (fun rb tg tc hne n => rdatum_all L hL hK hl rb tg tc hne n)
  have H12 := Lib.hid h12
  have hfn := readP_fine L hL
  unfold readP at hfn ⊢
  generalize hr : pTop L (2 * L.length + 1) 0 0 [] = r at *
  have HF := Lib.hid hfn
  clear h12 h hR hK hfn
  go_enter Try.func15, Try.ntmps15
  go_wp2_with fail
  refine (H12.out _).mono ?_
  rintro e w1 ⟨hu, v, rfl, ho⟩
  obtain ⟨tg, tc, rfl⟩ := own_some ho hL.pos
  have ht := Toks.of_own ho
  have htg := (own_lt ho tg rfl).1
  have htl := ht.1
  have hsz1 := hu.size
  have HU := Lib.hid hu
  have HT := Lib.hid ht
  clear hu ho ht H12
  dsimp only
  go_wp2_with fail
  have hpar0 : RPar (w1.alloc (.cells #[.slice (some ⟨tg, 0, none⟩) L.length tc, .int .i64 0, .int .i64 0, .int .i64 0, .pointer none] 101)) w1.heap.size tg L.length tc (0 : Nat) (0 : Nat) (0 : Nat) (.pointer none) := heap_alloc_new w1 _
  have hst : RTop L w w1.heap.size tg tc r (2 * L.length + 1) (w1.alloc (.cells #[.slice (some ⟨tg, 0, none⟩) L.length tc, .int .i64 0, .int .i64 0, .int .i64 0, .pointer none] 101)) 0 0 [] none 0 [] :=
    ⟨hr.symm, by omega, hL.pos, by omega, hpar0, HT.out.alloc _, HU.out.alloc _, Own.nil _ _, List.nodup_nil, by simp⟩
  have HST := Lib.hid hst
  have hne : tg ≠ w1.heap.size := by omega
  clear hst hpar0 hr HT HU
  generalize w1.heap.size = rb at *
  have HD := Lib.hid (HD.out rb tg tc hne)
  go_loopg [9] (2 * L.length + 1) (fun k p wr => k ≤ 2 * L.length + 1 ∧ ((∃ (i m : Nat) (kids : List Dat) (A : Option Addr) (c : Nat) (bs : List Nat), p = .slice A kids.length c ∧ RTop L w rb tg tc r k wr i m kids A c bs) ∨
    (∃ (er : Int) (a g : Nat) (z1 z2 z3 : Int), RTLost w rb tg L.length tc r wr er a g z1 z2 z3)))
  case atStart => exact ⟨Nat.le_refl _, .inl ⟨0, 0, [], none, 0, [], rfl, HST.out⟩⟩
  case round =>
    obtain ⟨hgn, hrel⟩ := hrel
    clear HST
    rcases hrel with ⟨i, m, kids, A, c, bs, rfl, hrel⟩ | ⟨er, a, g, y1, y2, y3, hrel⟩
    · have HR := Lib.hid hrel
      clear hrel
      obtain ⟨g, rfl⟩ : ∃ g, gk = g + 1 := ⟨gk - 1, by have := HR.out.fuel; omega⟩
      have ii0 : (0 : Int) ≤ i := by omega
      have i1 : (i : Int) < L.length := by have := HR.out.lt; omega
      obtain ⟨t0, t1, t2, t3⟩ := tok_kind HR.out.toks HR.out.lt
      obtain ⟨z0, z1, z2, z3, z4, zf0, zf1, zf2, zf3, zf4⟩ := rblk HR.out.par
      by_cases h9 : tokK L i = 9
      · have hrr : r = .ok kids i m := by rw [HR.out.res, pTop, if_pos h9]
        subst hrr
        rw [h9] at t0
        clear h9
        go_wp2_with fail
        go_quiet (fail)
        go_wp2_with fail
        refine bodyPost_ret (results_tmp3 rfl _ _ _) rfl ?_
        exact ⟨_, bs, rfl, HR.out.upd.trans ((Upd.refl (fun _ => False) wr).drewN _), ((HR.out.own.mono (by have := HR.out.upd.size; omega)).upd ((Upd.refl (fun _ => False) wr).drewN _) (fun _ _ x => x)), HR.out.nodup⟩
      · have k9 : (tokK L i != 9) = true := by simpa using h9
        have hr1 : ∀ x j k, pDat L g i 0 m = .ok x j k → r = pTop L g j k (kids ++ [x]) := fun x j k h => by rw [HR.out.res, pTop, if_neg h9, h]
        have hr2 : ∀ e a, pDat L g i 0 m = .bad e a → r = .bad e a := fun e a h => by rw [HR.out.res, pTop, if_neg h9, h]
        have hfn := ((p_fuel L hL g).1 i 0 m HR.out.lt (by have := HR.out.fuel; omega)).1
        have hd := fun w3 (hp : RPar w3 rb tg L.length tc i (0 : Nat) m (.pointer none)) (ht : Toks w3 tg L) => HD.out g w3 i 0 m hp ht HR.out.lt (by have := HR.out.fuel; omega) HR.out.many (by omega)
        have hbd := fun d j k => (p_bounds L hL g).1 i 0 m d j k HR.out.lt
        have hki : kids.length ≤ L.length := by have := HR.out.len; have := HR.out.lt; omega
        have Hbd := Lib.hid hbd
        generalize pDat L g i 0 m = rd at *
        have HD' := Lib.hid hd
        have HR1' := Lib.hid hr1
        have HR2' := Lib.hid hr2
        have HFN := Lib.hid hfn
        have Hki := Lib.hid hki
        clear h9 hd hbd hr1 hr2 hki hfn
        go_wp2_with fail
        go_quiet (fail)
        go_wp2_with fail
        have hn2 := (Upd.refl (fun _ => False) wr).drewN nq
        have HP2 := Lib.hid (hn2.heap HR.out.par (fun x => x))
        have HT2 := Lib.hid (HR.out.toks.new hn2)
        have HO2 := Lib.hid (HR.out.own.upd hn2 (fun _ _ x => x))
        have HU2 := Lib.hid (HR.out.upd.trans hn2)
        clear hn2 z0 z1 z2 z3 z4 zf0 zf1 zf2 zf3 zf4 t0 t1 t2 t3 k9
        generalize wr.drewN nq = w2 at *
        refine (HD'.out w2 HP2.out HT2.out).mono ?_
        rintro e w3 hpost
        obtain ⟨x, kv, bs2, s1, s2, s3, bp', rfl, hp3, hu3, hw3, hnd3, hor3⟩ := RDPost.any hpost HFN.out
        clear hpost
        have HOR := Lib.hid hor3
        clear hor3
        obtain ⟨A2, c2, rfl, hAA⟩ := hw3.len
        clear hAA
        unfold datV
        have HP3 := Lib.hid hp3
        have HU3 := Lib.hid hu3
        have HW3 := Lib.hid hw3
        have HN3 := Lib.hid hnd3
        have hs3 := hu3.size
        have hrb2 : rb < w2.heap.size := (Array.getElem?_eq_some_iff.1 HP2.out).1
        have hrs := HU2.out.size
        clear hp3 hu3 hw3 hnd3
        obtain ⟨es, hes, hbs, hrow, hks, h1⟩ := HO2.out.es
        subst hes
        simp only [List.length_map] at *
        subst hbs
        have HVB := Lib.hid (show ∀ q, (Value.slice A es.length c).ownBlock = some q → rb + 1 ≤ q ∧ q < w2.heap.size from fun q hq => own_lt hrow q hq)
        have HROW2 := Lib.hid hrow
        have HROW := Lib.hid (HU3.out.ownsRow hrow (fun q hq e => by have := own_lt hrow q hq; omega))
        have HKS := Lib.hid hks
        clear hrow hks h1
        have M3 := Lib.hid (show es.length + 1 ≤ maxLen by have := Hki.out; unfold maxLen; omega)
        have M4 := Lib.hid (show (es.length + 1) * 64 ≤ 140737488355328 by have := Hki.out; omega)
        go_wp2_with (at_builtin; refine wpList_append_row ((w3.alloc (.cells #[.int .u8 x.k, .int .i64 x.n, .string x.t, .slice A2 x.kids.length c2, .bool x.dot] 58)).alloc (.cells #[.int .u8 x.k, .int .i64 x.n, .string x.t, .slice A2 x.kids.length c2, .bool x.dot] 58)) rfl (.tmp 45) (.tmp 47) 23 rfl (rb + 1) 58 i0 _ 5 64 Try.underlying23 hi0 hz0 hz1 hz2 rfl (by decide) (.slice A es.length c) es.length (elCells es) rfl ((HROW.out.alloc (.cells #[.int .u8 x.k, .int .i64 x.n, .string x.t, .slice A2 x.kids.length c2, .bool x.dot] 58)).alloc (.cells #[.int .u8 x.k, .int .i64 x.n, .string x.t, .slice A2 x.kids.length c2, .bool x.dot] 58)) (.slice (some ⟨w3.heap.size + 1, 0, none⟩) 1 1) 1 (elCells [⟨x, .slice A2 x.kids.length c2, bs2⟩]) rfl (.inr ⟨w3.heap.size + 1, 1, rfl, rfl, World.news_of_block (alloc2 w3 (.cells #[.int .u8 x.k, .int .i64 x.n, .string x.t, .slice A2 x.kids.length c2, .bool x.dot] 58) (.cells #[.int .u8 x.k, .int .i64 x.n, .string x.t, .slice A2 x.kids.length c2, .bool x.dot] 58))⟩) (elCells_one _ (fun e he => by rw [List.mem_singleton.1 he]; exact ⟨_, _, _, rfl⟩)) M3.out M4.out (by first | omega | (simp; omega)) ?_; intro v1 w6 ho6 hg6 hat6; obtain ⟨A1, c1, rfl⟩ := own_form ho6; have HO6 := Lib.hid ho6; have HG6 := Lib.hid hg6; have HAT6 := Lib.hid hat6; clear ho6 hg6 hat6)
        have hold := own_push (rb := rb) (es2 := [⟨x, .slice A2 x.kids.length c2, bs2⟩]) HKS.out HROW2.out (by have := HR.out.nodup; exact this) (by omega) HU3.out (by omega) (fun e he => by rw [List.mem_singleton.1 he]; exact HW3.out) (by simpa using HN3.out) (((Upd.refl _ w3).alloc _).alloc _) HO6.out HG6.out (by simpa using HAT6.out)
        obtain ⟨bs', ho7, hn7, hu7⟩ := hold
        have hnr : ¬ (Value.slice A es.length c).ownBlock = some rb := fun e => by have := HVB.out _ e; omega
        have hnt : ¬ (Value.slice A es.length c).ownBlock = some tg := fun e => by have := HVB.out _ e; omega
        have hp8 := hu7.heap HP3.out hnr
        have ht8 := (HT2.out.upd HU3.out hne).upd hu7 hnt
        have hn8 : New w w6 := (HU2.out.trans' HU3.out (fun b hb e => by omega)).trans' hu7 (fun b hb e => by have := HVB.out _ e; omega)
        have hnx : (∃ (i m : Nat) (kids : List Dat) (A0 : Option Addr) (c0 : Nat) (bs : List Nat), Value.slice A1 (es.length + 1) c1 = .slice A0 kids.length c0 ∧ RTop L w rb tg tc r g w6 i m kids A0 c0 bs) ∨
            (∃ (er : Int) (a g : Nat) (z1 z2 z3 : Int), RTLost w rb tg L.length tc r w6 er a g z1 z2 z3) := by
          have hl0 := HR.out.len
          simp only [List.length_map] at hl0
          rcases HOR.out with ⟨j, k, e1, rfl, rfl, rfl, rfl⟩ | ⟨er, ea, ge, e1, rfl, hgs, hg3, hgx, hgk⟩
          · obtain ⟨q1, q2, q3, q4⟩ := Hbd.out x j k e1
            have hlen : (es.map El.d ++ [x]).length = es.length + 1 := by simp
            exact .inl ⟨j, k, es.map El.d ++ [x], A1, c1, bs', by rw [hlen], HR1'.out x j k e1, by have := HR.out.fuel; omega, q2, q4 HR.out.many, hp8, ht8, hn8, by rw [hlen]; exact ho7, hn7, by rw [hlen]; omega⟩
          · have hng : ¬ (Value.slice A es.length c).ownBlock = some ge := fun e => by have := HVB.out _ e; omega
            exact .inr ⟨er, ea, ge, _, _, _, HR2'.out er ea e1, hp8, hu7.heap hg3 hng, hn8⟩
        have HNX := Lib.hid hnx
        clear hnx ho7 hn7 hu7 hp8 ht8 hn8
        go_wp2_with fail
        go_roundg g
        case measure => omega
        case rel => exact ⟨by omega, HNX.out⟩
    · have HR := Lib.hid hrel
      have hrr := hrel.res
      subst hrr
      clear hrel
      obtain ⟨z0, z1, z2, z3, z4, zf0, zf1, zf2, zf3, zf4⟩ := rblk HR.out.par
      obtain ⟨g0, g1⟩ := blk2 HR.out.err
      go_wp2_with fail
      go_quiet (fail)
      go_wp2_with fail
      go_quiet (fail)
      go_wp2_with fail
      refine bodyPost_ret (results_tmp3 rfl _ _ _) rfl ?_
      exact ⟨rfl, HR.out.upd.trans (((Upd.refl (fun _ => False) wr).drewN _).drewN _)⟩
/-- The reference's Read, of any text. -/
theorem rread_any (s : ByteArray) (hs : Small s) (w : World) : Calls Try.prog 15 #[.string s] w (ReadPost w (readR s)) := by
  unfold readR
  by_cases h : (tokR s).2.1 ≠ 0
  · rw [if_pos h]
    exact rread_bad s hs ((tokR_bad s).2 h) w
  · rw [if_neg h]
    exact rread_good s hs (fun x => h ((tokR_bad s).1 x)) w
end Go.Proofs.Ytnnjhafjcdjobaa
