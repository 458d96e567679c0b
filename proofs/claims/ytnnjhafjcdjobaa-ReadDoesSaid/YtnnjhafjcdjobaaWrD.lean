/- Read: check. -/
import Derived.Test.YtnnjhafjcdjobaaWrC
namespace Go.Proofs.Ytnnjhafjcdjobaa
open Go.RowKit
set_option linter.unusedVariables false
set_option linter.unusedSimpArgs false

mutual
/-- Is it a datum? -/
def mayD : Dat → Bool
  | .mk k n t l dot =>
    if k = 1 then l.isEmpty && !dot && decide (t.size = 0) && decide (-576460752303423488 ≤ n) && decide (n < 576460752303423488)
    else if n ≠ 0 then false
    else if k = 2 then l.isEmpty && !dot && symB t
    else if t.size ≠ 0 then false
    else if k = 3 ∨ k = 4 then l.isEmpty && !dot
    else if k ≠ 5 then false
    else if dot = true ∧ (l.length < 2 ∨ (l.getLast?.map Dat.k) = some 5) then false
    else mayL l
def mayL : List Dat → Bool
  | [] => true
  | d :: l => mayD d && mayL l
end
mutual
/-- All its texts are small. -/
def Dat.wee : Dat → Prop
  | .mk _ _ t l _ => Small t ∧ weeL l
def weeL : List Dat → Prop
  | [] => True
  | d :: l => d.wee ∧ weeL l
end
theorem weeL_mem {l : List Dat} (h : weeL l) : ∀ d ∈ l, d.wee := by
  induction l with
  | nil => intro d hd; simp at hd
  | cons x l ih =>
    rw [weeL] at h
    intro d hd
    rcases List.mem_cons.1 hd with rfl | hd
    · exact h.1
    · exact ih h.2 d hd
/-- The writer's cells. -/
def Wtr (w : World) (wb : Nat) (bv : Value) (m : Int) : Prop := w.heap[wb]? = some (.cells #[bv, .int .i64 m] 135 (0, 0))
theorem wtr_cells {w : World} {wb : Nat} {bv : Value} {m : Int} (h : Wtr w wb bv m) : (w.cell? ⟨wb, 0, none⟩ = some bv ∧ w.cell? ⟨wb, 1, none⟩ = some (.int .i64 m)) ∧ (w.frozen? ⟨wb, 0, none⟩ = false ∧ w.frozen? ⟨wb, 1, none⟩ = false) ∧ wb < w.heap.size := by
  unfold Wtr at h
  refine ⟨⟨?_, ?_⟩, ⟨?_, ?_⟩, (Array.getElem?_eq_some_iff.1 h).1⟩ <;> simp [World.cell?, World.frozen?, h]
theorem wtr_set {w : World} {wb : Nat} {bv : Value} {m : Int} (h : Wtr w wb bv m) (m' : Int) : Wtr (w.setCell ⟨wb, 1, none⟩ (.int .i64 m')) wb bv m' := by
  have := bset h 1 (.int .i64 m')
  simpa [Wtr] using this
def CheckPost (d : Dat) (w : World) (wb : Nat) (bv : Value) (m : Nat) (e : Ending) (w' : World) : Prop :=
  Upd (fun b => b = wb) w w' ∧ ((mayD d = true ∧ e = .returned (.tuple #[.int .i64 d.deep, .int .i64 0]) ∧ Wtr w' wb bv (m + d.many : Nat)) ∨ (mayD d = false ∧ e = .returned (.tuple #[.int .i64 0, .int .i64 60]) ∧ ∃ m', Wtr w' wb bv m'))
theorem bytes0 {t : ByteArray} : (t.toList == []) = decide (t.size = 0) := by
  rw [ByteArray.toList_eq]
  cases t with | mk a => cases a with | mk l => cases l <;> simp [ByteArray.size]
theorem leaf_ok {k n : Int} {t : ByteArray} {dot : Bool} {w w' : World} {wb : Nat} {bv : Value} {m : Nat} (hk : k ≠ 5) (h : mayD (.mk k n t [] dot) = true) (hu : Upd (fun b => b = wb) w w') (hw : Wtr w' wb bv ((m : Int) + 1)) :
    CheckPost (.mk k n t [] dot) w wb bv m (.returned (.tuple #[.int .i64 0, .int .i64 0])) w' :=
  ⟨hu, .inl ⟨h, by rw [Dat.deep, if_neg hk]; rfl, by rw [Dat.many, manyL]; exact hw⟩⟩
theorem leaf_bad {d : Dat} {w w' : World} {wb : Nat} {bv : Value} {m : Nat} {m' : Int} (h : mayD d = false) (hu : Upd (fun b => b = wb) w w') (hw : Wtr w' wb bv m') :
    CheckPost d w wb bv m (.returned (.tuple #[.int .i64 0, .int .i64 60])) w' := ⟨hu, .inr ⟨h, rfl, _, hw⟩⟩
set_option maxHeartbeats 4000000 in
set_option maxRecDepth 20000 in
theorem check_leaf (k n : Int) (t : ByteArray) (es : List El) (dot : Bool) (A : Option Addr) (c : Nat) (hk5 : k ≠ 5) (hn : es.length ≤ 2000000) (ht : Small t) (over m : Nat) (ho : over ≤ 65536) (hm : m ≤ 1000000000) (wb : Nat) (bv : Value) (w : World) (hw : Wtr w wb bv m) :
    Calls Try.prog 79 #[.pointer (some ⟨wb, 0, none⟩), datV (.mk k n t (es.map El.d) dot) (.slice A es.length c), .int .i64 over] w (CheckPost (.mk k n t (es.map El.d) dot) w wb bv m) := by
  obtain ⟨⟨c0, c1⟩, ⟨cf0, cf1⟩, hlt⟩ := wtr_cells hw
  unfold datV
  simp only [Dat.k, Dat.n, Dat.t, Dat.dot]
  have j1 : IntKind.i64.wrap ((m : Int) + 1) = (m : Int) + 1 := IntWalk.i64_in _ (by omega)
  have j2 : ¬ (65536 < (over : Int)) := by omega
  have hwp := halloc (wtr_set hw ((m : Int) + 1)) (.cells #[.int .u8 k, .int .i64 n, .string t, .slice A es.length c, .bool dot] 58)
  have hup : Upd (fun b => b = wb) w _ := (((Upd.refl (fun b => b = wb) w).set (b := wb) (i := 1) rfl (.int .i64 ((m : Int) + 1))).alloc (.cells #[.int .u8 k, .int .i64 n, .string t, .slice A es.length c, .bool dot] 58))
  go_enter Try.func79, Try.ntmps79
  have HUP := Lib.hid hup
  have HWP := Lib.hid hwp
  clear hup hwp hw hm ho
  by_cases hl : es.length = 0
  · have he : es = [] := List.eq_nil_of_length_eq_zero hl
    subst he
    clear hl hn
    simp only [List.length_nil, List.map_nil] at *
    cases dot with
    | false =>
      go_upto_region 3 with (fail)
      by_cases k1 : k = 1
      · subst k1
        by_cases t0 : t.size = 0
        · have t1 : t.toList.isEmpty = true := by rw [empty_iff]; simpa using t0
          by_cases n1 : n < -576460752303423488
          · have MAY := Lib.hid (show mayD (.mk 1 n t [] false) = false from by rw [mayD]; simp [t0]; omega)
            go_wp2_with fail
            refine bodyPost_ret (results_tmp2 rfl _ _ _) rfl ?_
            exact leaf_bad MAY.out HUP.out HWP.out
          · by_cases n2 : 576460752303423488 ≤ n
            · have MAY := Lib.hid (show mayD (.mk 1 n t [] false) = false from by rw [mayD]; simp [t0]; omega)
              go_wp2_with fail
              refine bodyPost_ret (results_tmp2 rfl _ _ _) rfl ?_
              exact leaf_bad MAY.out HUP.out HWP.out
            · have MAY := Lib.hid (show mayD (.mk 1 n t [] false) = true from by rw [mayD]; simp [t0]; omega)
              go_wp2_with fail
              refine bodyPost_ret (results_tmp2 rfl _ _ _) rfl ?_
              exact leaf_ok (by decide) MAY.out HUP.out HWP.out
        · have t1 : t.toList.isEmpty = false := by rw [empty_iff]; simpa using t0
          have MAY := Lib.hid (show mayD (.mk 1 n t [] false) = false from by rw [mayD]; simp [t0])
          go_wp2_with fail
          refine bodyPost_ret (results_tmp2 rfl _ _ _) rfl ?_
          exact leaf_bad MAY.out HUP.out HWP.out
      · have kb1 : (k == 1) = false := by simpa using k1
        by_cases n0 : n = 0
        · subst n0
          by_cases k2 : k = 2
          · subst k2
            have hsy := isSymbol_calls t ht
            have HSY := Lib.hid hsy
            have hmay : mayD (.mk 2 0 t [] false) = symB t := by rw [mayD]; simp
            have HMAY := Lib.hid hmay
            generalize symB t = sy at *
            clear hsy hmay
            go_wp2_with fail
            refine (HSY.out _).mono ?_
            rintro e w3 ⟨rfl, hu3⟩
            have HU3 := Lib.hid hu3
            clear hu3
            have HUP3 := Lib.hid (HUP.out.trans (HU3.out.mono (fun _ _ h => h.elim)))
            have HWP3 := Lib.hid (HU3.out.heap HWP.out (fun h => h))
            cases sy with
            | true =>
              have MAY := HMAY
              go_wp2_with fail
              refine bodyPost_ret (results_tmp2 rfl _ _ _) rfl ?_
              exact leaf_ok (by decide) MAY.out HUP3.out HWP3.out
            | false =>
              have MAY := HMAY
              go_wp2_with fail
              refine bodyPost_ret (results_tmp2 rfl _ _ _) rfl ?_
              exact leaf_bad MAY.out HUP3.out HWP3.out
          · have kb2 : (k == 2) = false := by simpa using k2
            by_cases t0 : t.size = 0
            · have t1 : t.toList.isEmpty = true := by rw [empty_iff]; simpa using t0
              by_cases k3 : k = 3
              · subst k3
                have MAY := Lib.hid (show mayD (.mk 3 0 t [] false) = true from by rw [mayD]; simp [t0])
                go_wp2_with fail
                refine bodyPost_ret (results_tmp2 rfl _ _ _) rfl ?_
                exact leaf_ok (by decide) MAY.out HUP.out HWP.out
              · have kb3 : (k == 3) = false := by simpa using k3
                by_cases k4 : k = 4
                · subst k4
                  have MAY := Lib.hid (show mayD (.mk 4 0 t [] false) = true from by rw [mayD]; simp [t0])
                  go_wp2_with fail
                  refine bodyPost_ret (results_tmp2 rfl _ _ _) rfl ?_
                  exact leaf_ok (by decide) MAY.out HUP.out HWP.out
                · have kb4 : (k == 4) = false := by simpa using k4
                  have kb5 : (k != 5) = true := by simpa using hk5
                  have MAY := Lib.hid (show mayD (.mk k 0 t [] false) = false from by rw [mayD]; simp [t0, k1, k2, k3, k4, hk5])
                  go_wp2_with fail
                  refine bodyPost_ret (results_tmp2 rfl _ _ _) rfl ?_
                  exact leaf_bad MAY.out HUP.out HWP.out
            · have t1 : t.toList.isEmpty = false := by rw [empty_iff]; simpa using t0
              have MAY := Lib.hid (show mayD (.mk k 0 t [] false) = false from by rw [mayD]; simp [t0, k1, k2])
              go_wp2_with fail
              refine bodyPost_ret (results_tmp2 rfl _ _ _) rfl ?_
              exact leaf_bad MAY.out HUP.out HWP.out
        · have nb : (n != 0) = true := by simpa using n0
          have MAY := Lib.hid (show mayD (.mk k n t [] false) = false from by rw [mayD]; simp [k1, n0])
          go_wp2_with fail
          refine bodyPost_ret (results_tmp2 rfl _ _ _) rfl ?_
          exact leaf_bad MAY.out HUP.out HWP.out
    | true =>
      have pl0 : True := trivial
      go_upto_region 3 with (fail)
      by_cases k1 : k = 1
      · subst k1
        have MAY := Lib.hid (show mayD (.mk 1 n t [] true) = false from by rw [mayD]; simp [pl0])
        go_wp2_with fail
        refine bodyPost_ret (results_tmp2 rfl _ _ _) rfl ?_
        exact leaf_bad MAY.out HUP.out HWP.out
      · have kb1 : (k == 1) = false := by simpa using k1
        by_cases n0 : n = 0
        · subst n0
          by_cases k2 : k = 2
          · subst k2
            have MAY := Lib.hid (show mayD (.mk 2 0 t [] true) = false from by rw [mayD]; simp [pl0])
            go_wp2_with fail
            refine bodyPost_ret (results_tmp2 rfl _ _ _) rfl ?_
            exact leaf_bad MAY.out HUP.out HWP.out
          · have kb2 : (k == 2) = false := by simpa using k2
            by_cases t0 : t.size = 0
            · have t1 : t.toList.isEmpty = true := by rw [empty_iff]; simpa using t0
              by_cases k3 : k = 3
              · subst k3
                have MAY := Lib.hid (show mayD (.mk 3 0 t [] true) = false from by rw [mayD]; simp [t0, pl0])
                go_wp2_with fail
                refine bodyPost_ret (results_tmp2 rfl _ _ _) rfl ?_
                exact leaf_bad MAY.out HUP.out HWP.out
              · have kb3 : (k == 3) = false := by simpa using k3
                by_cases k4 : k = 4
                · subst k4
                  have MAY := Lib.hid (show mayD (.mk 4 0 t [] true) = false from by rw [mayD]; simp [t0, pl0])
                  go_wp2_with fail
                  refine bodyPost_ret (results_tmp2 rfl _ _ _) rfl ?_
                  exact leaf_bad MAY.out HUP.out HWP.out
                · have kb4 : (k == 4) = false := by simpa using k4
                  have kb5 : (k != 5) = true := by simpa using hk5
                  have MAY := Lib.hid (show mayD (.mk k 0 t [] true) = false from by rw [mayD]; simp [t0, k1, k2, k3, k4, hk5])
                  go_wp2_with fail
                  refine bodyPost_ret (results_tmp2 rfl _ _ _) rfl ?_
                  exact leaf_bad MAY.out HUP.out HWP.out
            · have t1 : t.toList.isEmpty = false := by rw [empty_iff]; simpa using t0
              have MAY := Lib.hid (show mayD (.mk k 0 t [] true) = false from by rw [mayD]; simp [t0, k1, k2])
              go_wp2_with fail
              refine bodyPost_ret (results_tmp2 rfl _ _ _) rfl ?_
              exact leaf_bad MAY.out HUP.out HWP.out
        · have nb : (n != 0) = true := by simpa using n0
          have MAY := Lib.hid (show mayD (.mk k n t [] true) = false from by rw [mayD]; simp [k1, n0])
          go_wp2_with fail
          refine bodyPost_ret (results_tmp2 rfl _ _ _) rfl ?_
          exact leaf_bad MAY.out HUP.out HWP.out
  · have pl0 : es ≠ [] := fun h => hl (by rw [h]; rfl)
    have hb : ((es.length : Int) == 0) = false := by simpa using hl
    clear hl
    go_upto_region 3 with (fail)
    by_cases k1 : k = 1
    · subst k1
      have MAY := Lib.hid (show mayD (.mk 1 n t (es.map El.d) dot) = false from by rw [mayD]; simp [pl0])
      go_wp2_with fail
      refine bodyPost_ret (results_tmp2 rfl _ _ _) rfl ?_
      exact leaf_bad MAY.out HUP.out HWP.out
    · have kb1 : (k == 1) = false := by simpa using k1
      by_cases n0 : n = 0
      · subst n0
        by_cases k2 : k = 2
        · subst k2
          have MAY := Lib.hid (show mayD (.mk 2 0 t (es.map El.d) dot) = false from by rw [mayD]; simp [pl0])
          go_wp2_with fail
          refine bodyPost_ret (results_tmp2 rfl _ _ _) rfl ?_
          exact leaf_bad MAY.out HUP.out HWP.out
        · have kb2 : (k == 2) = false := by simpa using k2
          by_cases t0 : t.size = 0
          · have t1 : t.toList.isEmpty = true := by rw [empty_iff]; simpa using t0
            by_cases k3 : k = 3
            · subst k3
              have MAY := Lib.hid (show mayD (.mk 3 0 t (es.map El.d) dot) = false from by rw [mayD]; simp [t0, pl0])
              go_wp2_with fail
              refine bodyPost_ret (results_tmp2 rfl _ _ _) rfl ?_
              exact leaf_bad MAY.out HUP.out HWP.out
            · have kb3 : (k == 3) = false := by simpa using k3
              by_cases k4 : k = 4
              · subst k4
                have MAY := Lib.hid (show mayD (.mk 4 0 t (es.map El.d) dot) = false from by rw [mayD]; simp [t0, pl0])
                go_wp2_with fail
                refine bodyPost_ret (results_tmp2 rfl _ _ _) rfl ?_
                exact leaf_bad MAY.out HUP.out HWP.out
              · have kb4 : (k == 4) = false := by simpa using k4
                have kb5 : (k != 5) = true := by simpa using hk5
                have MAY := Lib.hid (show mayD (.mk k 0 t (es.map El.d) dot) = false from by rw [mayD]; simp [t0, k1, k2, k3, k4, hk5])
                go_wp2_with fail
                refine bodyPost_ret (results_tmp2 rfl _ _ _) rfl ?_
                exact leaf_bad MAY.out HUP.out HWP.out
          · have t1 : t.toList.isEmpty = false := by rw [empty_iff]; simpa using t0
            have MAY := Lib.hid (show mayD (.mk k 0 t (es.map El.d) dot) = false from by rw [mayD]; simp [t0, k1, k2])
            go_wp2_with fail
            refine bodyPost_ret (results_tmp2 rfl _ _ _) rfl ?_
            exact leaf_bad MAY.out HUP.out HWP.out
      · have nb : (n != 0) = true := by simpa using n0
        have MAY := Lib.hid (show mayD (.mk k n t (es.map El.d) dot) = false from by rw [mayD]; simp [k1, n0])
        go_wp2_with fail
        refine bodyPost_ret (results_tmp2 rfl _ _ _) rfl ?_
        exact leaf_bad MAY.out HUP.out HWP.out
end Go.Proofs.Ytnnjhafjcdjobaa
