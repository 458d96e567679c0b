/- CycleEnds: a cycle ends within Most steps, and its steps come in their order, wherever threads stand or come late, for every two numbers, every list of lives and every list of answers that can be read. Conditions: none. -/
import Derived.Test.YtgfabhioliljmaaRows
import Derived.Test.YtgfabhioliljmaaCeV
import Derived.Lib.SmallJoins
import Derived.ProofKit
import Derived.OpenShut
import Derived.ShutString
import Derived.ChangeOld
namespace Go.Proofs.Ytgfabhioliljmaa.cycleEnds
open Go.Joins Go.ChangeShapes Go.WideShapes Go.ChangeAt Go.RowKit Go.Deep
set_option linter.unusedVariables false
set_option linter.unusedSimpArgs false

section
variable {H : Type} {enc : TypeId × Value → H} {P : Program} {w : World} {base : Nat} {spare : Nat → Bool} {held : Bool}
theorem open_slice_fields {t e : TypeId} {fs : Array Field} {fuel : Nat} {cs : List Value} {x : DataW H × List MemPlace} (ht : P.underlying t = some (.slice e)) (he : P.underlying e = some (.struct fs))
    (hone : oneCellFields P fs = true) (hC : P.cellsOf e = fs.size) (h : DataW.trod enc P w base spare held fuel t cs = some x) :
    (cs = [.slice none 0 0] ∧ x = (.nil, [])) ∨
    ∃ (a : Addr) (len cap m : Nat) (D : Nat → DataW H) (Pl : Nat → List MemPlace), cs = [.slice (some a) len cap] ∧ base ≤ a.block ∧ len ≤ cap ∧ cap ≤ maxLen ∧ m = (if spare a.block then cap else len) ∧
      x = (.slice ((List.range len).map D) ((List.range (m - len)).map fun j => D (len + j)), MemPlace.row a (m * fs.size) ++ (List.range m).flatMap Pl) ∧
      ∀ i, i < m → ∃ (ys : List (DataW H × List MemPlace)) (n : Nat), D i = .agg (ys.map (·.1)) ∧ Pl i = ys.flatMap (·.2) ∧ ys.length = fs.size ∧
        ∀ (j : Nat) (f : Field), fs[j]? = some f → ∃ (v : Value) (y : DataW H × List MemPlace), w.cell? (a.add (i * fs.size + j)) = some v ∧ ys[j]? = some y ∧ DataW.trod enc P w base spare held n f.type [v] = some y := by
  rcases open_slice ht h with h0 | ⟨a, len, cap, m, n, D, Pl, hcs, hb, hl, hm, hmm, hx, hi⟩
  · exact .inl h0
  · refine .inr ⟨a, len, cap, m, D, Pl, hcs, hb, hl, hm, hmm, by rw [hC] at hx; exact hx, fun i him => ?_⟩
    obtain ⟨cs', hc, ht'⟩ := hi i him
    rw [hC] at hc
    obtain ⟨ys, n', hn', hy, hlen, hyl, hf⟩ := DataW.trod_struct he ht'
    obtain ⟨_, hcl, hat⟩ := World.cells?_some hc
    simp only [Prod.mk.injEq] at hy
    refine ⟨ys, n', hy.1, hy.2, hyl, fun j f hj => ?_⟩
    obtain ⟨ho, hk⟩ := hone_of hone j f hj
    have hjl : j < fs.size := (Array.getElem?_eq_some_iff.1 hj).1
    have hcell := hat j hjl
    have hv : cs'[j]? = some (cs'[j]'(by omega)) := List.getElem?_eq_getElem (by omega)
    have h1 := hf j f hj
    rw [ho, hk] at h1
    have hone' : (cs'.drop j).take 1 = [cs'[j]'(by omega)] := by
      rw [List.drop_eq_getElem_cons (by omega)]
      rfl
    rw [hone'] at h1
    have hys : ys[j]? = some (ys[j]'(by omega)) := List.getElem?_eq_getElem (by omega)
    refine ⟨_, _, ?_, hys, h1.trans hys⟩
    rw [← Go.Deep.add_add, hcell, hv]
end

theorem spot_none {w : World} {a : Addr} {v : Value} (h : w.cell? a = some v) : a.spot = none := by
  unfold World.cell? at h
  split at h
  · cases hs : a.spot with
    | none => rfl
    | some q => simp [hs] at h
  · cases h
theorem add_none (b o n : Nat) : (⟨b, o, none⟩ : Addr).add n = ⟨b, o + n, none⟩ := by unfold Addr.add; split <;> simp_all
theorem wf64 {z : Int} (h : (Lit.int .i64 z).wf = true) : -9223372036854775808 ≤ z ∧ z ≤ 9223372036854775807 := bounds_i64 h
theorem int_of {H : Type} {enc : TypeId × Value → H} {W : World} {base : Nat} {spare : Nat → Bool} {held : Bool} {n : Nat} {v : Value} {y : DataW H × List MemPlace} (h : DataW.trod enc Try.prog W base spare held n 3 [v] = some y) : ∃ x, v = .int .i64 x ∧ (Lit.int .i64 x).wf = true := by
  obtain ⟨x, e0, _, hw⟩ := DataW.trod_int Try.underlying3 h
  simp at e0
  exact ⟨x, e0, hw⟩
theorem bool_of {H : Type} {enc : TypeId × Value → H} {W : World} {base : Nat} {spare : Nat → Bool} {held : Bool} {n : Nat} {v : Value} {y : DataW H × List MemPlace} (h : DataW.trod enc Try.prog W base spare held n 4 [v] = some y) : ∃ x, v = .bool x := by
  obtain ⟨x, e0, _⟩ := DataW.trod_bool Try.underlying4 h
  simp at e0
  exact ⟨x, e0⟩
theorem addr_form {w : World} {a : Addr} {v : Value} (h : w.cell? (a.add 0) = some v) : ∃ b o, a = ⟨b, o, none⟩ := by
  have h0 : w.cell? a = some v := by simpa [Addr.add] using h
  have hs := spot_none h0
  obtain ⟨b, o, s⟩ := a
  simp only at hs
  subst hs
  exact ⟨b, o, rfl⟩
theorem lives_of {H : Type} {enc : TypeId × Value → H} {W : World} {base : Nat} {spare : Nat → Bool} {held : Bool} {a : Option Addr} {len cap : Nat} {d : DataW H} {p : List MemPlace}
    (h : DataW.Trod enc Try.prog W base spare held 39 (.slice a len cap) d p) : ∃ ls : List Lf, Lives W (.slice a len cap) ls ∧ (∀ l ∈ ls, I64 l.late ∧ I64 l.shade) ∧ ls.length ≤ maxLen := by
  obtain ⟨fuel, hf⟩ := h
  rcases open_slice_fields Try.underlying39 Try.underlying47 (by kernel_rfl) (by kernel_rfl) hf with ⟨hcs, _⟩ | ⟨x, l, c, m, D, Pl, hcs, _, hlc, hcm, hm, _, hi⟩
  · simp [Value.cells] at hcs
    obtain ⟨rfl, rfl, rfl⟩ := hcs
    exact ⟨[], ⟨none, 0, rfl, fun j h => absurd h (by simp)⟩, by simp, by unfold maxLen; simp⟩
  · simp [Value.cells] at hcs
    obtain ⟨rfl, rfl, rfl⟩ := hcs
    have hml : len ≤ m := by rw [hm]; split <;> omega
    have hform : 0 < len → ∃ b o, x = ⟨b, o, none⟩ := by
      intro h0
      obtain ⟨ys, n, _, _, hyl, hfd⟩ := hi 0 (by omega)
      obtain ⟨v0, y0, c0, _, t0⟩ := hfd 0 _ rfl
      exact addr_form (v := v0) (by simpa using c0)
    have hone : ∀ i, ∃ y : Lf, i < len → ∃ b o, x = ⟨b, o, none⟩ ∧ W.cell? ⟨b, o + i * 4, none⟩ = some (.bool y.still) ∧ W.cell? ⟨b, o + i * 4 + 1, none⟩ = some (.int .i64 y.late) ∧ W.cell? ⟨b, o + i * 4 + 2, none⟩ = some (.bool y.born) ∧ W.cell? ⟨b, o + i * 4 + 3, none⟩ = some (.int .i64 y.shade) ∧ I64 y.late ∧ I64 y.shade := by
      intro i
      by_cases hil : i < len
      · obtain ⟨ys, n, _, _, hyl, hfd⟩ := hi i (by omega)
        obtain ⟨v0, y0, c0, _, t0⟩ := hfd 0 _ rfl
        obtain ⟨v1, y1, c1, _, t1⟩ := hfd 1 _ rfl
        obtain ⟨v2, y2, c2, _, t2⟩ := hfd 2 _ rfl
        obtain ⟨v3, y3, c3, _, t3⟩ := hfd 3 _ rfl
        obtain ⟨b0, rfl⟩ := bool_of t0
        obtain ⟨b1, rfl, w1⟩ := int_of t1
        obtain ⟨b2, rfl⟩ := bool_of t2
        obtain ⟨b3, rfl, w3⟩ := int_of t3
        obtain ⟨b, o, rfl⟩ := hform (by omega)
        rw [add_none] at c0 c1 c2 c3
        exact ⟨⟨b0, b1, b2, b3⟩, fun _ => ⟨b, o, rfl, c0, c1, c2, c3, wf64 w1, wf64 w3⟩⟩
      · exact ⟨⟨false, 0, false, 0⟩, fun hh => absurd hh hil⟩
    obtain ⟨f, hf2⟩ := Classical.axiomOfChoice hone
    refine ⟨(List.range len).map f, ⟨some x, cap, by simp, fun j hj => ?_⟩, ?_, by simp; omega⟩
    · have hj2 : j < len := by simpa using hj
      obtain ⟨b, o, hx, z0, z1, z2, z3, _, _⟩ := hf2 j hj2
      have e : ((List.range len).map f)[j] = f j := by simp
      rw [e]
      exact ⟨b, o, by rw [hx], World.block_lt_of_cell? W ⟨b, o + j * 4, none⟩ z0, z0, z1, z2, z3⟩
    · intro l hl
      obtain ⟨i, hi2, rfl⟩ := List.mem_map.1 hl
      obtain ⟨b, o, _, _, _, _, _, e1, e2⟩ := hf2 i (List.mem_range.1 hi2)
      exact ⟨e1, e2⟩
theorem backs_of {H : Type} {enc : TypeId × Value → H} {W : World} {base : Nat} {spare : Nat → Bool} {held : Bool} {a : Option Addr} {len cap : Nat} {d : DataW H} {p : List MemPlace}
    (h : DataW.Trod enc Try.prog W base spare held 40 (.slice a len cap) d p) : ∃ bs : List Bool, Backs W (.slice a len cap) bs ∧ bs.length ≤ maxLen := by
  obtain ⟨fuel, hf⟩ := h
  rcases open_slice Try.underlying40 hf with ⟨hcs, _⟩ | ⟨x, l, c, m, n, D, Pl, hcs, _, hlc, hcm, hm, _, hi⟩
  · simp [Value.cells] at hcs
    obtain ⟨rfl, rfl, rfl⟩ := hcs
    exact ⟨[], ⟨none, 0, rfl, fun j h => absurd h (by simp)⟩, by unfold maxLen; simp⟩
  · simp [Value.cells] at hcs
    obtain ⟨rfl, rfl, rfl⟩ := hcs
    have hml : len ≤ m := by rw [hm]; split <;> omega
    have hC : Try.prog.cellsOf 4 = 1 := by kernel_rfl
    have hform : 0 < len → ∃ b o, x = ⟨b, o, none⟩ := by
      intro h0
      obtain ⟨cs', hc, ht'⟩ := hi 0 (by omega)
      rw [hC] at hc
      obtain ⟨_, hcl, hat⟩ := World.cells?_some hc
      obtain ⟨y, e0, _⟩ := DataW.trod_bool Try.underlying4 ht'
      have h1 := hat 0 (by omega)
      rw [e0] at h1
      exact addr_form (v := .bool y) (by simpa [Addr.add] using h1)
    have hone : ∀ i, ∃ y : Bool, i < len → ∃ b o, x = ⟨b, o, none⟩ ∧ W.cell? ⟨b, o + i, none⟩ = some (.bool y) := by
      intro i
      by_cases hil : i < len
      · obtain ⟨cs', hc, ht'⟩ := hi i (by omega)
        rw [hC] at hc
        obtain ⟨_, hcl, hat⟩ := World.cells?_some hc
        obtain ⟨y, e0, _⟩ := DataW.trod_bool Try.underlying4 ht'
        have h0 := hat 0 (by omega)
        rw [e0] at h0
        obtain ⟨b, o, rfl⟩ := hform (by omega)
        rw [add_none, add_none] at h0
        exact ⟨y, fun _ => ⟨b, o, rfl, by simpa using h0⟩⟩
      · exact ⟨false, fun hh => absurd hh hil⟩
    obtain ⟨f, hf2⟩ := Classical.axiomOfChoice hone
    refine ⟨(List.range len).map f, ⟨some x, cap, by simp, fun j hj => ?_⟩, by simp; omega⟩
    have hj2 : j < len := by simpa using hj
    obtain ⟨b, o, hx, z0⟩ := hf2 j hj2
    have e : ((List.range len).map f)[j] = f j := by simp
    rw [e]
    exact ⟨b, o, by rw [hx], World.block_lt_of_cell? W ⟨b, o + j, none⟩ z0, z0⟩
theorem lifted_walk {H : Type} {enc : TypeId × Value → H} (W : World) (base : Nat) (v0 : Value) (d0 : DataW H) (p0 : List MemPlace) (v1 : Value) (d1 : DataW H) (p1 : List MemPlace) (v2 : Value) (d2 : DataW H) (p2 : List MemPlace) (v3 : Value) (d3 : DataW H) (p3 : List MemPlace)
    (hv0 : Value.okWide Try.prog W .any base 3 v0) (h0 : DataW.Trod enc Try.prog W 0 (fun _ => true) true 3 v0 d0 p0)
    (hv1 : Value.okWide Try.prog W .any base 3 v1) (h1 : DataW.Trod enc Try.prog W 0 (fun _ => true) true 3 v1 d1 p1)
    (hv2 : Value.okWide Try.prog W .any base 39 v2) (h2 : DataW.Trod enc Try.prog W 0 (fun _ => true) true 39 v2 d2 p2)
    (hv3 : Value.okWide Try.prog W .any base 40 v3) (h3 : DataW.Trod enc Try.prog W 0 (fun _ => true) true 40 v3 d3 p3)
    (hs : True) : Calls Try.prog 5 #[v0, v1, v2, v3] W fun e w' => e = .returned (.bool true) ∧ Below W.heap.size W w' := by
  obtain ⟨a0, rfl, rfl, rfl, w0⟩ := open_int Try.underlying3 hv0 h0
  obtain ⟨a1, rfl, rfl, rfl, w1⟩ := open_int Try.underlying3 hv1 h1
  obtain ⟨A, len, cap, rfl⟩ := okWide_slice Try.underlying39 hv2
  obtain ⟨A2, len2, cap2, rfl⟩ := okWide_slice Try.underlying40 hv3
  obtain ⟨ls, hL, hi, hl⟩ := lives_of h2
  obtain ⟨bs, hB, hb⟩ := backs_of h3
  exact (ends_calls a0 a1 (wf64 w0) (wf64 w1) ls bs _ _ W hL hB hi hl hb).mono fun e w' h => ⟨h.1, h.2.to_below' (fun _ x => x.elim)⟩

theorem own : ownKnob Try.prog.godebug = none := by kernel_rfl
theorem laidOut : laidOutB Try.prog = true := by kernel_rfl
set_option maxRecDepth 100000 in
theorem lifted (os : Os) (started : os.Started) (H : Type) (enc : TypeId × Value → H) :
    ReturnsInHanded {} Try.checked os 5 .any (Rows.cycleEndsSpec.pre6 enc Try.prog Try.f5 Rows.cycleEndsRow.domain false) (Rows.cycleEndsSpec.post enc Try.prog Try.f5 false true false false) := by
  refine returnsInHanded_of_change (C := Try.checked) own started (by kernel_rfl) Try.func5
    (ChangeSpec.witness6 (enc := enc) (C := Try.checked) false ⟨#[], #[.int .i64 0, .int .i64 0, .slice none 0 0, .slice none 0 0], []⟩ 8 (by kernel_rfl) (by kernel_rfl) (by kernel_rfl) (by kernel_rfl)) ?_
  intro W base args ds gs before hval0 hW hcnd hsz
  have hval : ∀ (j : Nat) t v, Try.f5.params[j]? = some t → args[j]? = some v → Value.okWide Try.prog W .any base t v := hval0
  have hW' := hW
  obtain ⟨p, q, hA0, hV, rfl, hfz, hnd⟩ := hW
  have hA : DataW.TrodAll enc Try.prog W 0 (fun _ => true) true Try.f5.params.toList args.toList ds p := hA0
  rw [Try.params5] at hA hval
  obtain ⟨v0, vs0, d0, ds0, p0, q0, hargs, rfl, rfl, h0, r0⟩ := trodAll_cons hA
  obtain ⟨v1, vs1, d1, ds1, p1, q1, rfl, rfl, rfl, h1, r1⟩ := trodAll_cons r0
  obtain ⟨v2, vs2, d2, ds2, p2, q2, rfl, rfl, rfl, h2, r2⟩ := trodAll_cons r1
  obtain ⟨v3, vs3, d3, ds3, p3, q3, rfl, rfl, rfl, h3, r3⟩ := trodAll_cons r2
  obtain ⟨rfl, rfl, rfl⟩ := trodAll_nil r3
  obtain rfl : args = #[v0, v1, v2, v3] := by cases args; simp_all
  obtain ⟨rfl, rfl⟩ := trodVars_none hV
  have k0 := h0
  have lt0 : ∀ x ∈ p0, x.block < W.heap.size := by obtain ⟨m, hm⟩ := k0; exact DataW.trod_lt m _ _ _ hm
  have k1 := h1
  have lt1 : ∀ x ∈ p1, x.block < W.heap.size := by obtain ⟨m, hm⟩ := k1; exact DataW.trod_lt m _ _ _ hm
  have k2 := h2
  have lt2 : ∀ x ∈ p2, x.block < W.heap.size := by obtain ⟨m, hm⟩ := k2; exact DataW.trod_lt m _ _ _ hm
  have k3 := h3
  have lt3 : ∀ x ∈ p3, x.block < W.heap.size := by obtain ⟨m, hm⟩ := k3; exact DataW.trod_lt m _ _ _ hm
  refine (lifted_walk W base v0 d0 p0 v1 d1 p1 v2 d2 p2 v3 d3 p3 (hval 0 3 v0 rfl rfl) k0 (hval 1 3 v1 rfl rfl) k1 (hval 2 39 v2 rfl rfl) k2 (hval 3 40 v3 rfl rfl) k3 ?hreach).mono fun e W' ⟨he, bel⟩ => ?_
  case hreach => exact trivial
  subst he
  exact ⟨_, rfl, _, _, _, [], _, [], hW', trodAll_mk1 (shut_bool Try.underlying4 _), (trodAll_cons_mk (Below.trod laidOut (by kernel_rfl) (of_decide_eq_true (by kernel_rfl)) k0 bel lt0) (trodAll_cons_mk (Below.trod laidOut (by kernel_rfl) (of_decide_eq_true (by kernel_rfl)) k1 bel lt1) (trodAll_cons_mk (Below.trod laidOut (by kernel_rfl) (of_decide_eq_true (by kernel_rfl)) k2 bel lt2) (trodAll_cons_mk (Below.trod laidOut (by kernel_rfl) (of_decide_eq_true (by kernel_rfl)) k3 bel lt3) trodAll_mk0)))), rfl, bel.frame _, fun h => by cases h⟩

theorem over : Rows.cycleEndsRow.holds Try.pinned (OpenSpec.ofChange Rows.cycleEndsSpec) :=
  OpenClaim.holds_of_wide 5 Try.f5 rfl rfl rfl rfl rfl rfl rfl ⟨rfl, rfl, rfl, rfl, rfl⟩ rfl rfl rfl rfl rfl (by kernel_rfl) Try.func5 (by kernel_rfl)
    (of_decide_eq_true (by kernel_rfl)) (by unfold Func.isWrapper; first | (rw [if_pos (by decide +kernel)]; kernel_rfl) | (rw [if_neg (by decide +kernel)]; exact ⟨rfl, rfl⟩))
    (fun os started H enc _ => lifted os started H enc)

/-- The statement. -/
theorem proved : Rows.CycleEndsSaid := over
#print axioms proved
end Go.Proofs.Ytgfabhioliljmaa.cycleEnds
