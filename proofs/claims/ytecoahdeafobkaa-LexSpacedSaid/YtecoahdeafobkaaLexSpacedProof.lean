/- LexSpaced: blanks and comments between tokens tell nothing, for every text and every list of numbers that can be read. Conditions: none. -/
import Derived.Test.YtecoahdeafobkaaRows
import Derived.Test.YtecoahdeafobkaaLxX
import Derived.ProofKit
import Derived.OpenShut
import Derived.ShutString
import Derived.ChangeOld
import Derived.ChangeMaps5
namespace Go.Proofs.Ytecoahdeafobkaa.lexSpaced
open Go.ChangeShapes Go.WideShapes Go.ChangeAt Go.RowKit Go.ChangeMaps
set_option linter.unusedVariables false

theorem spot_none {w : World} {a : Addr} {v : Value} (h : w.cell? a = some v) : a.spot = none := by
  unfold World.cell? at h
  split at h
  · cases hs : a.spot with
    | none => rfl
    | some q => simp [hs] at h
  · cases h
theorem add_none (b o n : Nat) : (⟨b, o, none⟩ : Addr).add n = ⟨b, o + n, none⟩ := by unfold Addr.add; split <;> simp_all
theorem ints_of {H : Type} {enc : TypeId × Value → H} {W : World} {base : Nat} {spare : Nat → Bool} {held : Bool} {a : Option Addr} {len cap : Nat} {d : DataW H} {p : List MemPlace}
    (h : DataW.Trod enc Try.prog W base spare held 35 (.slice a len cap) d p) : IsInts W a len := by
  obtain ⟨fuel, hf⟩ := h
  rcases open_ints Try.underlying35 Try.underlying3 (by kernel_rfl) hf with ⟨hcs, _⟩ | ⟨x, l, c, zs, hcs, _, hl, hm, hz, _, hcell, hwz⟩
  · simp [Value.cells] at hcs
    obtain ⟨rfl, rfl, rfl⟩ := hcs
    exact ⟨by omega, fun i hi => by omega⟩
  · simp [Value.cells] at hcs
    obtain ⟨rfl, rfl, rfl⟩ := hcs
    have hz' : len ≤ zs.length := by rw [hz]; split <;> omega
    refine ⟨by unfold maxLen at hm; omega, fun i hlt => ?_⟩
    have hsp : x.spot = none := by
      have := hcell 0 (by omega)
      exact spot_none (by simpa [Addr.add] using this)
    obtain ⟨xb, xo, xs⟩ := x
    simp only at hsp
    subst hsp
    have h1 := hcell i (by omega)
    rw [add_none] at h1
    exact ⟨xb, xo, _, rfl, World.block_lt_of_cell? W ⟨xb, xo + i, none⟩ h1, h1⟩

theorem walk (s : ByteArray) (A : Option Addr) (n cap : Nat) (w : World) (hA : IsInts w A n) : Calls Try.prog 6 #[.string s, .slice A n cap] w fun e w' => e = .returned (.bool true) ∧ Below w.heap.size w w' := by
  by_cases h : decide ((20000 : Int) < s.size) = true
  · clear hA
    go_enter Try.func6, Try.ntmps6
    go_wp2_with (go_at_call 9; refine (works_calls _).mono ?_; rintro e w1 ⟨rfl, hu⟩)
    go_ret
    exact ⟨rfl, hu.to_below' (fun _ x => x.elim)⟩
  · replace h : decide ((20000 : Int) < s.size) = false := by simpa using h
    have hs : Small s := by have := of_decide_eq_false h; unfold Small; omega
    by_cases he : tokErr s
    · exact (spaced_bad s A n cap hs he h w).mono fun e w' ⟨a, b⟩ => ⟨a, b.to_below' (fun _ x => x.elim)⟩
    · exact (spaced_good s A n cap hs he h w hA).mono fun e w' ⟨a, b⟩ => ⟨a, b.to_below' (fun _ x => x.elim)⟩

set_option maxRecDepth 100000 in
set_option linter.constructorNameAsVariable false in
theorem lifted_walk {H : Type} {enc : TypeId × Value → H} (W : World) (base : Nat) (v0 : Value) (d0 : DataW H) (p0 : List MemPlace) (v1 : Value) (d1 : DataW H) (p1 : List MemPlace)
    (hval0 : Value.okWide Try.prog W .any base 9 v0) (k0 : DataW.Trod enc Try.prog W 0 (fun _ => true) true 9 v0 d0 p0)
    (hval1 : Value.okWide Try.prog W .any base 35 v1) (k1 : DataW.Trod enc Try.prog W 0 (fun _ => true) true 35 v1 d1 p1) (_ : True) :
    Calls Try.prog 6 #[v0, v1] W fun e W' => e = .returned (.bool true) ∧ Below W.heap.size W W' := by
  obtain ⟨s, hv, _⟩ := open_string Try.underlying9 hval0 k0
  obtain ⟨a1, len, cap, rfl⟩ := okWide_slice Try.underlying35 hval1
  subst hv
  exact walk s a1 len cap W (ints_of k1)

theorem own : ownKnob Try.prog.godebug = none := by kernel_rfl
theorem laidOut : laidOutB Try.prog = true := by kernel_rfl
set_option maxRecDepth 100000 in
theorem lifted (os : Os) (started : os.Started) (H : Type) (enc : TypeId × Value → H) :
    ReturnsInHanded {} Try.checked os 6 .any (Rows.lexSpacedSpec.pre6 enc Try.prog Try.f6 Rows.lexSpacedRow.domain false) (Rows.lexSpacedSpec.post enc Try.prog Try.f6 false true false false) := by
  refine returnsInHanded_of_change (C := Try.checked) own started (by kernel_rfl) Try.func6
    (ChangeSpec.witness6 (enc := enc) (C := Try.checked) false ⟨#[], #[.string ByteArray.empty, .slice none 0 0], []⟩ 8 (by kernel_rfl) (by kernel_rfl) (by kernel_rfl) (by kernel_rfl)) ?_
  intro W base args ds gs before hval0 hW hcnd hsz
  have hval : ∀ (j : Nat) t v, Try.f6.params[j]? = some t → args[j]? = some v → Value.okWide Try.prog W .any base t v := hval0
  have hW' := hW
  obtain ⟨p, q, hA0, hV, rfl, hfz, hnd⟩ := hW
  have hA : DataW.TrodAll enc Try.prog W 0 (fun _ => true) true Try.f6.params.toList args.toList ds p := hA0
  rw [Try.params6] at hA hval
  obtain ⟨v0, vs0, d0, ds0, p0, q0, hargs, rfl, rfl, h0, r0⟩ := trodAll_cons hA
  obtain ⟨v1, vs1, d1, ds1, p1, q1, rfl, rfl, rfl, h1, r1⟩ := trodAll_cons r0
  obtain ⟨rfl, rfl, rfl⟩ := trodAll_nil r1
  obtain rfl : args = #[v0, v1] := by cases args; simp_all
  obtain ⟨rfl, rfl⟩ := trodVars_none hV
  have k0 := h0
  have lt0 : ∀ x ∈ p0, x.block < W.heap.size := by obtain ⟨m, hm⟩ := k0; exact DataW.trod_lt m _ _ _ hm
  have k1 := h1
  have lt1 : ∀ x ∈ p1, x.block < W.heap.size := by obtain ⟨m, hm⟩ := k1; exact DataW.trod_lt m _ _ _ hm
  refine (lifted_walk W base v0 d0 p0 v1 d1 p1 (hval 0 9 v0 rfl rfl) k0 (hval 1 35 v1 rfl rfl) k1 ?hreach).mono fun e W' ⟨he, bel⟩ => ?_
  case hreach => exact trivial
  subst he
  exact ⟨_, rfl, _, _, _, [], _, [], hW', trodAll_mk1 (shut_bool Try.underlying4 _), (trodAll_cons_mk (Below.trod laidOut (by kernel_rfl) (of_decide_eq_true (by kernel_rfl)) k0 bel lt0) (trodAll_cons_mk (Below.trod laidOut (by kernel_rfl) (of_decide_eq_true (by kernel_rfl)) k1 bel lt1) trodAll_mk0)), rfl, bel.frame _, fun h => by cases h⟩

theorem over : Rows.lexSpacedRow.holds Try.pinned (OpenSpec.ofChange Rows.lexSpacedSpec) :=
  OpenClaim.holds_of_wide 6 Try.f6 rfl rfl rfl rfl rfl rfl rfl ⟨rfl, rfl, rfl, rfl, rfl⟩ rfl rfl rfl rfl rfl (by kernel_rfl) Try.func6 (by kernel_rfl)
    (of_decide_eq_true (by kernel_rfl)) (by unfold Func.isWrapper; first | (rw [if_pos (by decide +kernel)]; kernel_rfl) | (rw [if_neg (by decide +kernel)]; exact ⟨rfl, rfl⟩))
    (fun os started H enc _ => lifted os started H enc)

/-- The statement. -/
theorem proved : Rows.LexSpacedSaid := over
#print axioms proved
end Go.Proofs.Ytecoahdeafobkaa.lexSpaced
