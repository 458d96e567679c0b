/- CycleTells: every Begin, Next, Step and Most answers as the document's, for every place of the collector, whatever is around it and every number of threads. Conditions: none. -/
import Derived.Test.YtgfabhioliljmaaRows
import Derived.Test.YtgfabhioliljmaaCyJ
import Derived.Lib.SmallJoins
import Derived.ProofKit
import Derived.OpenShut
import Derived.ShutString
import Derived.ChangeOld
namespace Go.Proofs.Ytgfabhioliljmaa.cycleTells
open Go.Joins Go.ChangeShapes Go.WideShapes Go.ChangeAt Go.RowKit Go.Deep
set_option linter.unusedVariables false

section
variable {H : Type} {enc : TypeId × Value → H} {P : Program} {w : World} {base : Nat} {spare : Nat → Bool} {held : Bool}
theorem open_agg6 {r : Reach} {b0 : Nat} {t : TypeId} {f0 f1 f2 f3 f4 f5 : Field} {v : Value} {d : DataW H} {p : List MemPlace} (hs : P.underlying t = some (.struct #[f0, f1, f2, f3, f4, f5])) (hone : oneCellFields P #[f0, f1, f2, f3, f4, f5] = true) (hC : P.cellsOf t = 6)
    (hv : Value.okWide P w r b0 t v) (h : DataW.Trod enc P w base spare held t v d p) :
    ∃ (v0 v1 v2 v3 v4 v5 : Value) (y0 y1 y2 y3 y4 y5 : DataW H × List MemPlace) (n : Nat), v = .agg #[v0, v1, v2, v3, v4, v5] ∧ d = .agg [y0.1, y1.1, y2.1, y3.1, y4.1, y5.1] ∧ p = y0.2 ++ (y1.2 ++ (y2.2 ++ (y3.2 ++ (y4.2 ++ y5.2)))) ∧
      DataW.trod enc P w base spare held n f0.type [v0] = some y0 ∧ DataW.trod enc P w base spare held n f1.type [v1] = some y1 ∧ DataW.trod enc P w base spare held n f2.type [v2] = some y2 ∧ DataW.trod enc P w base spare held n f3.type [v3] = some y3 ∧ DataW.trod enc P w base spare held n f4.type [v4] = some y4 ∧ DataW.trod enc P w base spare held n f5.type [v5] = some y5 := by
  obtain ⟨cs, rfl, hsz⟩ := okWide_struct hs hv
  obtain ⟨l⟩ := cs
  match l, hsz.trans hC with
  | [c0, c1, c2, c3, c4, c5], _ =>
    obtain ⟨fuel, hf⟩ := h
    obtain ⟨xs, n, _, hx, _, hlen, hg⟩ := DataW.trod_struct hs hf
    obtain ⟨o0, k0⟩ := hone_of hone 0 f0 rfl
    obtain ⟨o1, k1⟩ := hone_of hone 1 f1 rfl
    obtain ⟨o2, k2⟩ := hone_of hone 2 f2 rfl
    obtain ⟨o3, k3⟩ := hone_of hone 3 f3 rfl
    obtain ⟨o4, k4⟩ := hone_of hone 4 f4 rfl
    obtain ⟨o5, k5⟩ := hone_of hone 5 f5 rfl
    match xs, hlen with
    | [y0, y1, y2, y3, y4, y5], _ =>
      simp only [Prod.mk.injEq] at hx
      exact ⟨c0, c1, c2, c3, c4, c5, y0, y1, y2, y3, y4, y5, n, rfl, by simpa using hx.1, by simpa using hx.2, by simpa [Value.cells, o0, k0] using hg 0 f0 rfl, by simpa [Value.cells, o1, k1] using hg 1 f1 rfl, by simpa [Value.cells, o2, k2] using hg 2 f2 rfl, by simpa [Value.cells, o3, k3] using hg 3 f3 rfl, by simpa [Value.cells, o4, k4] using hg 4 f4 rfl, by simpa [Value.cells, o5, k5] using hg 5 f5 rfl⟩
end

theorem int_of {H : Type} {enc : TypeId × Value → H} {W : World} {n : Nat} {t : TypeId} {k : IntKind} {v : Value} {y : DataW H × List MemPlace} (hu : Try.prog.underlying t = some (.int k)) (h : DataW.trod enc Try.prog W 0 (fun _ => true) true n t [v] = some y) : ∃ x, v = .int k x ∧ (Lit.int k x).wf = true := by
  obtain ⟨x, e0, _, hw⟩ := DataW.trod_int hu h
  simp at e0
  exact ⟨x, e0, hw⟩
theorem bool_of {H : Type} {enc : TypeId × Value → H} {W : World} {n : Nat} {v : Value} {y : DataW H × List MemPlace} (h : DataW.trod enc Try.prog W 0 (fun _ => true) true n 4 [v] = some y) : ∃ x, v = .bool x := by
  obtain ⟨x, e0, _⟩ := DataW.trod_bool Try.underlying4 h
  simp at e0
  exact ⟨x, e0⟩

theorem lifted_walk {H : Type} {enc : TypeId × Value → H} (W : World) (base : Nat) (v0 : Value) (d0 : DataW H) (p0 : List MemPlace) (v1 : Value) (d1 : DataW H) (p1 : List MemPlace) (v2 : Value) (d2 : DataW H) (p2 : List MemPlace) (v3 : Value) (d3 : DataW H) (p3 : List MemPlace)
    (hv0 : Value.okWide Try.prog W .any base 27 v0) (h0 : DataW.Trod enc Try.prog W 0 (fun _ => true) true 27 v0 d0 p0)
    (hv1 : Value.okWide Try.prog W .any base 29 v1) (h1 : DataW.Trod enc Try.prog W 0 (fun _ => true) true 29 v1 d1 p1)
    (hv2 : Value.okWide Try.prog W .any base 4 v2) (h2 : DataW.Trod enc Try.prog W 0 (fun _ => true) true 4 v2 d2 p2)
    (hv3 : Value.okWide Try.prog W .any base 3 v3) (h3 : DataW.Trod enc Try.prog W 0 (fun _ => true) true 3 v3 d3 p3)
    (hs : True) : Calls Try.prog 4 #[v0, v1, v2, v3] W fun e w' => e = .returned (.bool true) ∧ Below W.heap.size W w' := by
  obtain ⟨c0, c1, c2, c3, c4, c5, y0, y1, y2, y3, y4, y5, n, rfl, _, _, q0, q1, q2, q3, q4, q5⟩ := open_agg6 Try.underlying27 (by kernel_rfl) (by kernel_rfl) hv0 h0
  obtain ⟨ph, rfl, wp⟩ := int_of (t := 25) (k := .u8) Try.underlying25 q0
  obtain ⟨g, rfl, _⟩ := int_of (t := 3) (k := .i64) Try.underlying3 q1
  obtain ⟨s, rfl, _⟩ := int_of (t := 3) (k := .i64) Try.underlying3 q2
  obtain ⟨f, rfl, _⟩ := int_of (t := 3) (k := .i64) Try.underlying3 q3
  obtain ⟨b, rfl, _⟩ := int_of (t := 3) (k := .i64) Try.underlying3 q4
  obtain ⟨a, rfl⟩ := bool_of q5
  obtain ⟨e0, e1, e2, e3, e4, e5, z0, z1, z2, z3, z4, z5, m, rfl, _, _, r0, r1, r2, r3, r4, r5⟩ := open_agg6 Try.underlying29 (by kernel_rfl) (by kernel_rfl) hv1 h1
  obtain ⟨rc, rfl, _⟩ := int_of (t := 3) (k := .i64) Try.underlying3 r0
  obtain ⟨rg, rfl, _⟩ := int_of (t := 3) (k := .i64) Try.underlying3 r1
  obtain ⟨rt, rfl, _⟩ := int_of (t := 3) (k := .i64) Try.underlying3 r2
  obtain ⟨rs, rfl⟩ := bool_of r3
  obtain ⟨ro, rfl⟩ := bool_of r4
  obtain ⟨ry, rfl⟩ := bool_of r5
  obtain ⟨back, rfl, rfl, rfl⟩ := open_bool Try.underlying4 hv2 h2
  obtain ⟨th, rfl, rfl, rfl, _⟩ := open_int Try.underlying3 hv3 h3
  have hph : 0 ≤ (⟨ph, g, s, f, b, a⟩ : Cyc).ph := (bounds_u8 wp).1
  have c := (⟨ph, g, s, f, b, a⟩ : Cyc)
  exact (tells_core ph g s f b a rc rg rt rs ro ry back th _ _ _ _ _ _ _ _ _ _ _ _ _ _ _ _ _ _ _ W
    (Lib.hid (begin_calls ⟨ph, g, s, f, b, a⟩)) (Lib.hid (rbegin_calls ⟨ph, g, s, f, b, a⟩))
    (Lib.hid (next_calls ⟨ph, g, s, f, b, a⟩ ⟨rc, rg, rt, rs, ro, ry⟩ hph)) (Lib.hid (rnext_calls ⟨ph, g, s, f, b, a⟩ ⟨rc, rg, rt, rs, ro, ry⟩ hph))
    (Lib.hid (step_calls ⟨ph, g, s, f, b, a⟩ ⟨rc, rg, rt, rs, ro, ry⟩ back hph)) (Lib.hid (rstep_calls ⟨ph, g, s, f, b, a⟩ ⟨rc, rg, rt, rs, ro, ry⟩ back hph))
    (Lib.hid (most_calls rc rg th)) (Lib.hid (fun w => (rmost_calls rc rg th w).mono fun e w' h => ⟨h.1, by rw [← h.2]; exact Upd.refl _ _⟩))).mono
    fun e w' h => ⟨h.1, h.2.to_below' (fun _ x => x.elim)⟩

theorem own : ownKnob Try.prog.godebug = none := by kernel_rfl
theorem laidOut : laidOutB Try.prog = true := by kernel_rfl
set_option maxRecDepth 100000 in
theorem lifted (os : Os) (started : os.Started) (H : Type) (enc : TypeId × Value → H) :
    ReturnsInHanded {} Try.checked os 4 .any (Rows.cycleTellsSpec.pre6 enc Try.prog Try.f4 Rows.cycleTellsRow.domain false) (Rows.cycleTellsSpec.post enc Try.prog Try.f4 false true false false) := by
  refine returnsInHanded_of_change (C := Try.checked) own started (by kernel_rfl) Try.func4
    (ChangeSpec.witness6 (enc := enc) (C := Try.checked) false ⟨#[], #[.agg #[.int .u8 0, .int .i64 0, .int .i64 0, .int .i64 0, .int .i64 0, .bool false], .agg #[.int .i64 0, .int .i64 0, .int .i64 0, .bool false, .bool false, .bool false], .bool false, .int .i64 0], []⟩ 8 (by kernel_rfl) (by kernel_rfl) (by kernel_rfl) (by kernel_rfl)) ?_
  intro W base args ds gs before hval0 hW hcnd hsz
  have hval : ∀ (j : Nat) t v, Try.f4.params[j]? = some t → args[j]? = some v → Value.okWide Try.prog W .any base t v := hval0
  have hW' := hW
  obtain ⟨p, q, hA0, hV, rfl, hfz, hnd⟩ := hW
  have hA : DataW.TrodAll enc Try.prog W 0 (fun _ => true) true Try.f4.params.toList args.toList ds p := hA0
  rw [Try.params4] at hA hval
  obtain ⟨v0, vs0, d0, ds0, p0, q0, hargs, rfl, rfl, h0, r0⟩ := trodAll_cons hA
  obtain ⟨v1, vs1, d1, ds1, p1, q1, rfl, rfl, rfl, h1, r1⟩ := trodAll_cons r0
  obtain ⟨v2, vs2, d2, ds2, p2, q2, rfl, rfl, rfl, h2, r2⟩ := trodAll_cons r1
  obtain ⟨v3, vs3, d3, ds3, p3, q3, rfl, rfl, rfl, h3, r3⟩ := trodAll_cons r2
  obtain ⟨rfl, rfl, rfl⟩ := trodAll_nil r3
  obtain rfl : args = #[v0, v1, v2, v3] := by cases args; simp_all
  obtain ⟨rfl, rfl⟩ := trodVars_none hV
  have k0 := h0
  have lt0 : ∀ x ∈ p0, x.block < W.heap.size := by obtain ⟨m, hm⟩ := k0; exact DataW.trod_lt m _ _ _ hm
  have k1 := h1
  have lt1 : ∀ x ∈ p1, x.block < W.heap.size := by obtain ⟨m, hm⟩ := k1; exact DataW.trod_lt m _ _ _ hm
  have k2 := h2
  have lt2 : ∀ x ∈ p2, x.block < W.heap.size := by obtain ⟨m, hm⟩ := k2; exact DataW.trod_lt m _ _ _ hm
  have k3 := h3
  have lt3 : ∀ x ∈ p3, x.block < W.heap.size := by obtain ⟨m, hm⟩ := k3; exact DataW.trod_lt m _ _ _ hm
  refine (lifted_walk W base v0 d0 p0 v1 d1 p1 v2 d2 p2 v3 d3 p3 (hval 0 27 v0 rfl rfl) k0 (hval 1 29 v1 rfl rfl) k1 (hval 2 4 v2 rfl rfl) k2 (hval 3 3 v3 rfl rfl) k3 ?hreach).mono fun e W' ⟨he, bel⟩ => ?_
  case hreach => exact trivial
  subst he
  exact ⟨_, rfl, _, _, _, [], _, [], hW', trodAll_mk1 (shut_bool Try.underlying4 _), (trodAll_cons_mk (Below.trod laidOut (by kernel_rfl) (of_decide_eq_true (by kernel_rfl)) k0 bel lt0) (trodAll_cons_mk (Below.trod laidOut (by kernel_rfl) (of_decide_eq_true (by kernel_rfl)) k1 bel lt1) (trodAll_cons_mk (Below.trod laidOut (by kernel_rfl) (of_decide_eq_true (by kernel_rfl)) k2 bel lt2) (trodAll_cons_mk (Below.trod laidOut (by kernel_rfl) (of_decide_eq_true (by kernel_rfl)) k3 bel lt3) trodAll_mk0)))), rfl, bel.frame _, fun h => by cases h⟩

theorem over : Rows.cycleTellsRow.holds Try.pinned (OpenSpec.ofChange Rows.cycleTellsSpec) :=
  OpenClaim.holds_of_wide 4 Try.f4 rfl rfl rfl rfl rfl rfl rfl ⟨rfl, rfl, rfl, rfl, rfl⟩ rfl rfl rfl rfl rfl (by kernel_rfl) Try.func4 (by kernel_rfl)
    (of_decide_eq_true (by kernel_rfl)) (by unfold Func.isWrapper; first | (rw [if_pos (by decide +kernel)]; kernel_rfl) | (rw [if_neg (by decide +kernel)]; exact ⟨rfl, rfl⟩))
    (fun os started H enc _ => lifted os started H enc)

/-- The statement. -/
theorem proved : Rows.CycleTellsSaid := over
#print axioms proved
end Go.Proofs.Ytgfabhioliljmaa.cycleTells
