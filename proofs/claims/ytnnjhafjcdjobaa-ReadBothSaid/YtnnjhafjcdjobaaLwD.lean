/- Read: the law ReadBack, walked. -/
import Derived.Test.YtnnjhafjcdjobaaLwC
namespace Go.Proofs.Ytnnjhafjcdjobaa
open Go.RowKit
set_option linter.unusedVariables false
set_option linter.unusedSimpArgs false

theorem code_parse (L : List Tok) : ∀ n,
    (∀ i o m e a, pDat L n i o m = .bad e a → e = 60 ∨ e = 61 ∨ e = 62) ∧ (∀ i o m acc e a, pList L n i o m acc = .bad e a → e = 60 ∨ e = 61 ∨ e = 62) := by
  intro n
  induction n with
  | zero => exact ⟨fun i o m e a h => (by rw [pDat] at h; cases h), fun i o m acc e a h => (by rw [pList] at h; cases h)⟩
  | succ n ih =>
    obtain ⟨ihD, ihL⟩ := ih
    refine ⟨fun i o m e a hr => ?_, fun i o m acc e a hr => ?_⟩
    · rw [pDat] at hr
      split at hr
      · split at hr
        · cases hr; exact .inr (.inl rfl)
        · split at hr
          · cases hr; exact .inr (.inr rfl)
          · exact ihL _ _ _ _ _ _ hr
      · split at hr
        · split at hr
          · cases hr; exact .inr (.inl rfl)
          · split at hr
            · cases hr; exact .inr (.inr rfl)
            · split at hr
              · cases hr
              · rename_i hx; cases hr; exact ihD _ _ _ _ _ hx
              · cases hr
        · split at hr
          · split at hr
            · cases hr; exact .inr (.inr rfl)
            · cases hr
          · cases hr; exact .inl rfl
    · rw [pList] at hr
      split at hr
      · cases hr
      · split at hr
        · split at hr
          · split at hr
            · cases hr
            · cases hr; exact .inl rfl
          · rename_i hx; cases hr; exact ihD _ _ _ _ _ hx
          · cases hr
        · split at hr
          · exact ihL _ _ _ _ _ _ hr
          · rename_i hx; cases hr; exact ihD _ _ _ _ _ hx
          · cases hr
theorem code_top (L : List Tok) : ∀ n i m acc e a, pTop L n i m acc = .bad e a → e = 60 ∨ e = 61 ∨ e = 62 := by
  intro n
  induction n with
  | zero => intro i m acc e a h; rw [pTop] at h; cases h
  | succ n ih =>
    intro i m acc e a h
    rw [pTop] at h
    split at h
    · cases h
    · split at h
      · exact ih _ _ _ _ _ h
      · rename_i hx; cases h; exact (code_parse L n).1 _ _ _ _ _ hx
      · cases h
/-- A text is read, or it is not. -/
theorem read_cases (s : ByteArray) (hs : Small s) : (∃ er pl : Int, (er == 0) = false ∧ (er != 0) = true ∧ ∀ w, Calls Try.prog 16 #[.string s] w fun e w' => e = .returned (.tuple #[.slice none 0 0, .int .i64 er, .int .i64 pl]) ∧ New w w') ∨
    (¬ tokErr s ∧ ∃ l i m, readP (toks s 0).1 = .ok l i m) := by
  by_cases h : tokErr s
  · obtain ⟨er, pl, h0, h1⟩ := read_bad s hs h
    exact .inl ⟨er, pl, (by simpa using h0), h0, h1⟩
  · cases hr : readP (toks s 0).1 with
    | ok l i m => exact .inr ⟨h, l, i, m, rfl⟩
    | bad e a =>
      have he : e = 60 ∨ e = 61 ∨ e = 62 := code_top _ _ _ _ _ _ _ hr
      exact .inl ⟨e, a, (by simp; omega), (by simp; omega), fun w => read_isnt hs h hr w⟩
    | out => exact absurd hr (read_fine s h)
theorem text_small {l : List Dat} (h : writeE l = 0) : (textW l).size ≤ 65536 := by
  unfold writeE at h
  repeat' split at h
  all_goals first | omega | (exact absurd h (by decide))
/-- What is written is read back. -/
theorem back_calls {l : List Dat} (h : writeE l = 0) (w : World) : Calls Try.prog 16 #[.string (textW l)] w fun e w' => ∃ A c bs, e = .returned (.tuple #[.slice A l.length c, .int .i64 0, .int .i64 0]) ∧ New w w' ∧ Own w' w.heap.size (.slice A l.length c) l bs ∧ bs.Nodup := by
  obtain ⟨h1, i, m, h2⟩ := written_back h
  exact read_is (by have := text_small h; unfold Small; omega) h1 h2 w
set_option maxHeartbeats 4000000 in
set_option maxRecDepth 20000 in
theorem readback_much (s : ByteArray) (l : List Dat) (v : Value) (w : World) (hv : SeesB w v l) (h : leftL l 200000 0 < 0) : Calls Try.prog 6 #[.string s, v] w fun e w' => e = .returned (.bool true) ∧ New w w' := by
  have HMU := Lib.hid (fun w' (hn : New w w') => much_calls l v w' (hv.new hn))
  have hd : decide (leftL l 200000 0 < 0) = true := decide_eq_true h
  rw [hd] at HMU
  clear h hd hv
  go_enter Try.func6, Try.ntmps6
  go_wp2_with fail
  refine (works_calls _).mono ?_
  rintro e w1 ⟨rfl, hu1⟩
  have HU1 := Lib.hid hu1
  clear hu1
  go_wp2_with fail
  refine (HMU.out _ HU1.out).mono ?_
  rintro e w2 ⟨rfl, hu2⟩
  have HU2 := Lib.hid (HU1.out.trans hu2)
  clear hu2
  go_wp2_with fail
  go_ret
  exact ⟨rfl, HU2.out⟩
set_option maxHeartbeats 4000000 in
set_option maxRecDepth 20000 in
theorem readback_long (s : ByteArray) (l : List Dat) (v : Value) (w : World) (hv : SeesB w v l) (h : ¬ leftL l 200000 0 < 0) (hs : decide ((200000 : Int) < s.size) = true) : Calls Try.prog 6 #[.string s, v] w fun e w' => e = .returned (.bool true) ∧ New w w' := by
  have HMU := Lib.hid (fun w' (hn : New w w') => much_calls l v w' (hv.new hn))
  have hd : decide (leftL l 200000 0 < 0) = false := decide_eq_false h
  rw [hd] at HMU
  clear h hd hv
  go_enter Try.func6, Try.ntmps6
  go_wp2_with fail
  refine (works_calls _).mono ?_
  rintro e w1 ⟨rfl, hu1⟩
  have HU1 := Lib.hid hu1
  clear hu1
  go_wp2_with fail
  refine (HMU.out _ HU1.out).mono ?_
  rintro e w2 ⟨rfl, hu2⟩
  have HU2 := Lib.hid (HU1.out.trans hu2)
  clear hu2
  go_wp2_with fail
  go_ret
  exact ⟨rfl, HU2.out⟩
set_option maxHeartbeats 8000000 in
set_option maxRecDepth 20000 in
theorem readback_calls (s : ByteArray) (l : List Dat) (v : Value) (w : World) (hv : SeesB w v l) (h : ¬ leftL l 200000 0 < 0) (hsz : decide ((200000 : Int) < s.size) = false) : Calls Try.prog 6 #[.string s, v] w fun e w' => e = .returned (.bool true) ∧ New w w' := by
  obtain ⟨m1, m2, m3, m4⟩ := much_not h
  have HMU := Lib.hid (fun w' (hn : New w w') => much_calls l v w' (hv.new hn))
  have hd : decide (leftL l 200000 0 < 0) = false := decide_eq_false h
  rw [hd] at HMU
  have hs : Small s := by have := of_decide_eq_false hsz; unfold Small; omega
  have HV := Lib.hid (fun w' (hn : New w w') => (hv.sees (by omega)).new hn)
  have HWEE := Lib.hid m2
  have HHG := Lib.hid (show hgtL l ≤ 60000 by omega)
  have HMN := Lib.hid (show manyL l ≤ 1000000 by omega)
  have HMM := Lib.hid (show manyL l ≤ 2000000 by omega)
  have hcs := read_cases s hs
  have hgot := fun h1 l i m (h2 : readP (toks s 0).1 = .ok l i m) => And.intro (read_got hs h1 h2) (read_writes hs h1 h2)
  have his := fun h1 l i m (h2 : readP (toks s 0).1 = .ok l i m) w => read_is hs h1 h2 w
  clear m1 m2 m3 m4 h hd hv
  rcases hcs with ⟨er, pl, e0, e1, hr⟩ | ⟨h1, d, i, m, h2⟩
  · have HR := Lib.hid hr
    clear hr hgot his hs
    by_cases hE : writeE l = 0
    · have HE := Lib.hid hE
      have HBK := Lib.hid (fun w => back_calls hE w)
      clear hE
      go_enter Try.func6, Try.ntmps6
      go_wp2_with fail
      refine (works_calls _).mono ?_
      rintro e w1 ⟨rfl, hu1⟩
      have HU1 := Lib.hid hu1
      clear hu1
      go_wp2_with fail
      refine (HMU.out _ HU1.out).mono ?_
      rintro e w2 ⟨rfl, hu2⟩
      have HU2 := Lib.hid (HU1.out.trans hu2)
      clear hu2
      go_wp2_with fail
      refine (write_all (HV.out _ HU2.out) HWEE.out HHG.out HMN.out).mono ?_
      rintro e w3 ⟨rfl, hu3⟩
      have HU3 := Lib.hid (HU2.out.trans hu3)
      clear hu3
      rw [writeT, HE.out, if_pos rfl]
      go_wp2_with fail
      refine (HBK.out _).mono ?_
      rintro e w4 ⟨A, c, bs, rfl, hu4, ho4, -⟩
      have HU4 := Lib.hid (HU3.out.trans hu4)
      have HO4 := Lib.hid ho4
      clear hu4 ho4
      go_wp2_with fail
      refine (sdata_calls l l _ _ _ (own_sees HO4.out HMM.out) (HV.out _ HU4.out)).mono ?_
      rintro e w5 ⟨rfl, hu5⟩
      have HU5 := Lib.hid (HU4.out.trans hu5)
      clear hu5 HO4
      rw [sameL_true rfl]
      go_wp2_with fail
      refine (HR.out _).mono ?_
      rintro e w6 ⟨rfl, hu6⟩
      have HU6 := Lib.hid (HU5.out.trans hu6)
      clear hu6
      go_wp2_with fail
      go_ret
      exact ⟨rfl, HU6.out⟩
    · have hE2 : (writeE l == 0) = false := by simpa using hE
      clear hE
      go_enter Try.func6, Try.ntmps6
      go_wp2_with fail
      refine (works_calls _).mono ?_
      rintro e w1 ⟨rfl, hu1⟩
      have HU1 := Lib.hid hu1
      clear hu1
      go_wp2_with fail
      refine (HMU.out _ HU1.out).mono ?_
      rintro e w2 ⟨rfl, hu2⟩
      have HU2 := Lib.hid (HU1.out.trans hu2)
      clear hu2
      go_wp2_with fail
      refine (write_all (HV.out _ HU2.out) HWEE.out HHG.out HMN.out).mono ?_
      rintro e w3 ⟨rfl, hu3⟩
      have HU3 := Lib.hid (HU2.out.trans hu3)
      clear hu3
      have HU5 := HU3
      generalize hWT : writeT l = T
      go_wp2_with fail
      refine (HR.out _).mono ?_
      rintro e w6 ⟨rfl, hu6⟩
      have HU6 := Lib.hid (HU5.out.trans hu6)
      clear hu6
      go_wp2_with fail
      go_ret
      exact ⟨rfl, HU6.out⟩
  · have hr := his h1 d i m h2
    obtain ⟨⟨g1, g2, g3, g4⟩, g5⟩ := hgot h1 d i m h2
    have HR := Lib.hid hr
    have HDM := Lib.hid (show manyL d ≤ 2000000 by omega)
    have HDN := Lib.hid (show manyL d ≤ 1000000 by omega)
    have HDW := Lib.hid g4
    have HDH := Lib.hid (show hgtL d ≤ 60000 by have := hgtL_may d g1; omega)
    clear hr hgot his hs h1 h2 g1 g2 g3 g4
    rcases g5 with g5 | g5
    · have HDE := Lib.hid g5
      clear g5
      by_cases hE : writeE l = 0
      · have HE := Lib.hid hE
        have HBK := Lib.hid (fun w => back_calls hE w)
        clear hE
        go_enter Try.func6, Try.ntmps6
        go_wp2_with fail
        refine (works_calls _).mono ?_
        rintro e w1 ⟨rfl, hu1⟩
        have HU1 := Lib.hid hu1
        clear hu1
        go_wp2_with fail
        refine (HMU.out _ HU1.out).mono ?_
        rintro e w2 ⟨rfl, hu2⟩
        have HU2 := Lib.hid (HU1.out.trans hu2)
        clear hu2
        go_wp2_with fail
        refine (write_all (HV.out _ HU2.out) HWEE.out HHG.out HMN.out).mono ?_
        rintro e w3 ⟨rfl, hu3⟩
        have HU3 := Lib.hid (HU2.out.trans hu3)
        clear hu3
        rw [writeT, HE.out, if_pos rfl]
        go_wp2_with fail
        refine (HBK.out _).mono ?_
        rintro e w4 ⟨A, c, bs, rfl, hu4, ho4, -⟩
        have HU4 := Lib.hid (HU3.out.trans hu4)
        have HO4 := Lib.hid ho4
        clear hu4 ho4
        go_wp2_with fail
        refine (sdata_calls l l _ _ _ (own_sees HO4.out HMM.out) (HV.out _ HU4.out)).mono ?_
        rintro e w5 ⟨rfl, hu5⟩
        have HU5 := Lib.hid (HU4.out.trans hu5)
        clear hu5 HO4
        rw [sameL_true rfl]
        go_wp2_with fail
        refine (HR.out _).mono ?_
        rintro e w6 ⟨A6, c6, bs6, rfl, hu6, ho6, -⟩
        have HU6 := Lib.hid (HU5.out.trans hu6)
        have HO6 := Lib.hid (own_sees ho6 HDM.out)
        clear hu6 ho6
        go_wp2_with fail
        refine (write_all HO6.out HDW.out HDH.out HDN.out).mono ?_
        rintro e w7 ⟨rfl, hu7⟩
        have HU7 := Lib.hid (HU6.out.trans hu7)
        clear hu7
        rw [writeT, HDE.out, if_neg (by decide)]
        go_wp2_with fail
        go_ret
        exact ⟨rfl, HU7.out⟩
      · have hE2 : (writeE l == 0) = false := by simpa using hE
        clear hE
        go_enter Try.func6, Try.ntmps6
        go_wp2_with fail
        refine (works_calls _).mono ?_
        rintro e w1 ⟨rfl, hu1⟩
        have HU1 := Lib.hid hu1
        clear hu1
        go_wp2_with fail
        refine (HMU.out _ HU1.out).mono ?_
        rintro e w2 ⟨rfl, hu2⟩
        have HU2 := Lib.hid (HU1.out.trans hu2)
        clear hu2
        go_wp2_with fail
        refine (write_all (HV.out _ HU2.out) HWEE.out HHG.out HMN.out).mono ?_
        rintro e w3 ⟨rfl, hu3⟩
        have HU3 := Lib.hid (HU2.out.trans hu3)
        clear hu3
        have HU5 := HU3
        generalize hWT : writeT l = T
        go_wp2_with fail
        refine (HR.out _).mono ?_
        rintro e w6 ⟨A6, c6, bs6, rfl, hu6, ho6, -⟩
        have HU6 := Lib.hid (HU5.out.trans hu6)
        have HO6 := Lib.hid (own_sees ho6 HDM.out)
        clear hu6 ho6
        go_wp2_with fail
        refine (write_all HO6.out HDW.out HDH.out HDN.out).mono ?_
        rintro e w7 ⟨rfl, hu7⟩
        have HU7 := Lib.hid (HU6.out.trans hu7)
        clear hu7
        rw [writeT, HDE.out, if_neg (by decide)]
        go_wp2_with fail
        go_ret
        exact ⟨rfl, HU7.out⟩
    · have HDE := Lib.hid g5
      have HDB := Lib.hid (fun w => back_calls g5 w)
      clear g5
      by_cases hE : writeE l = 0
      · have HE := Lib.hid hE
        have HBK := Lib.hid (fun w => back_calls hE w)
        clear hE
        go_enter Try.func6, Try.ntmps6
        go_wp2_with fail
        refine (works_calls _).mono ?_
        rintro e w1 ⟨rfl, hu1⟩
        have HU1 := Lib.hid hu1
        clear hu1
        go_wp2_with fail
        refine (HMU.out _ HU1.out).mono ?_
        rintro e w2 ⟨rfl, hu2⟩
        have HU2 := Lib.hid (HU1.out.trans hu2)
        clear hu2
        go_wp2_with fail
        refine (write_all (HV.out _ HU2.out) HWEE.out HHG.out HMN.out).mono ?_
        rintro e w3 ⟨rfl, hu3⟩
        have HU3 := Lib.hid (HU2.out.trans hu3)
        clear hu3
        rw [writeT, HE.out, if_pos rfl]
        go_wp2_with fail
        refine (HBK.out _).mono ?_
        rintro e w4 ⟨A, c, bs, rfl, hu4, ho4, -⟩
        have HU4 := Lib.hid (HU3.out.trans hu4)
        have HO4 := Lib.hid ho4
        clear hu4 ho4
        go_wp2_with fail
        refine (sdata_calls l l _ _ _ (own_sees HO4.out HMM.out) (HV.out _ HU4.out)).mono ?_
        rintro e w5 ⟨rfl, hu5⟩
        have HU5 := Lib.hid (HU4.out.trans hu5)
        clear hu5 HO4
        rw [sameL_true rfl]
        go_wp2_with fail
        refine (HR.out _).mono ?_
        rintro e w6 ⟨A6, c6, bs6, rfl, hu6, ho6, -⟩
        have HU6 := Lib.hid (HU5.out.trans hu6)
        have HO6 := Lib.hid (own_sees ho6 HDM.out)
        clear hu6 ho6
        go_wp2_with fail
        refine (write_all HO6.out HDW.out HDH.out HDN.out).mono ?_
        rintro e w7 ⟨rfl, hu7⟩
        have HU7 := Lib.hid (HU6.out.trans hu7)
        have HO7 := Lib.hid (HO6.out.new hu7)
        clear hu7 HO6
        rw [writeT, HDE.out, if_pos rfl]
        go_wp2_with fail
        refine (HDB.out _).mono ?_
        rintro e w8 ⟨A8, c8, bs8, rfl, hu8, ho8, -⟩
        have HU8 := Lib.hid (HU7.out.trans hu8)
        have HO8 := Lib.hid (HO7.out.new hu8)
        have HP8 := Lib.hid (own_sees ho8 HDM.out)
        clear hu8 ho8 HO7
        go_wp2_with fail
        refine (write_all HP8.out HDW.out HDH.out HDN.out).mono ?_
        rintro e w9 ⟨rfl, hu9⟩
        have HU9 := Lib.hid (HU8.out.trans hu9)
        have HO9 := Lib.hid (HO8.out.new hu9)
        have HP9 := Lib.hid (HP8.out.new hu9)
        clear hu9 HO8 HP8
        rw [writeT, HDE.out, if_pos rfl]
        go_wp2_with fail
        refine (sdata_calls d d _ _ _ HP9.out HO9.out).mono ?_
        rintro e w10 ⟨rfl, hu10⟩
        have HU10 := Lib.hid (HU9.out.trans hu10)
        clear hu10
        rw [sameL_true rfl]
        generalize textW d = TD at *
        go_wp2_with fail
        go_ret
        exact ⟨rfl, HU10.out⟩
      · have hE2 : (writeE l == 0) = false := by simpa using hE
        clear hE
        go_enter Try.func6, Try.ntmps6
        go_wp2_with fail
        refine (works_calls _).mono ?_
        rintro e w1 ⟨rfl, hu1⟩
        have HU1 := Lib.hid hu1
        clear hu1
        go_wp2_with fail
        refine (HMU.out _ HU1.out).mono ?_
        rintro e w2 ⟨rfl, hu2⟩
        have HU2 := Lib.hid (HU1.out.trans hu2)
        clear hu2
        go_wp2_with fail
        refine (write_all (HV.out _ HU2.out) HWEE.out HHG.out HMN.out).mono ?_
        rintro e w3 ⟨rfl, hu3⟩
        have HU3 := Lib.hid (HU2.out.trans hu3)
        clear hu3
        have HU5 := HU3
        generalize hWT : writeT l = T
        go_wp2_with fail
        refine (HR.out _).mono ?_
        rintro e w6 ⟨A6, c6, bs6, rfl, hu6, ho6, -⟩
        have HU6 := Lib.hid (HU5.out.trans hu6)
        have HO6 := Lib.hid (own_sees ho6 HDM.out)
        clear hu6 ho6
        go_wp2_with fail
        refine (write_all HO6.out HDW.out HDH.out HDN.out).mono ?_
        rintro e w7 ⟨rfl, hu7⟩
        have HU7 := Lib.hid (HU6.out.trans hu7)
        have HO7 := Lib.hid (HO6.out.new hu7)
        clear hu7 HO6
        rw [writeT, HDE.out, if_pos rfl]
        go_wp2_with fail
        refine (HDB.out _).mono ?_
        rintro e w8 ⟨A8, c8, bs8, rfl, hu8, ho8, -⟩
        have HU8 := Lib.hid (HU7.out.trans hu8)
        have HO8 := Lib.hid (HO7.out.new hu8)
        have HP8 := Lib.hid (own_sees ho8 HDM.out)
        clear hu8 ho8 HO7
        go_wp2_with fail
        refine (write_all HP8.out HDW.out HDH.out HDN.out).mono ?_
        rintro e w9 ⟨rfl, hu9⟩
        have HU9 := Lib.hid (HU8.out.trans hu9)
        have HO9 := Lib.hid (HO8.out.new hu9)
        have HP9 := Lib.hid (HP8.out.new hu9)
        clear hu9 HO8 HP8
        rw [writeT, HDE.out, if_pos rfl]
        go_wp2_with fail
        refine (sdata_calls d d _ _ _ HP9.out HO9.out).mono ?_
        rintro e w10 ⟨rfl, hu10⟩
        have HU10 := Lib.hid (HU9.out.trans hu10)
        clear hu10
        rw [sameL_true rfl]
        generalize textW d = TD at *
        go_wp2_with fail
        go_ret
        exact ⟨rfl, HU10.out⟩
end Go.Proofs.Ytnnjhafjcdjobaa
