/- ReadBoth: two texts with a line end between are read as both, and blanks, line ends and comments between tokens change no datum, for all texts that fit into a machine. Conditions: none. -/
import Derived.Test.YtnnjhafjcdjobaaRows
import Derived.Test.YtnnjhafjcdjobaaLwJ
import Derived.ProofKit
import Derived.OpenShut
import Derived.ShutString
import Derived.ChangeOld
import Derived.ChangeMaps5
namespace Go.Proofs.Ytnnjhafjcdjobaa.readBoth
open Go.ChangeShapes Go.WideShapes Go.ChangeAt Go.RowKit Go.ChangeMaps
set_option linter.unusedVariables false

theorem walk (s t g : ByteArray) (h1 : s.size ≤ 140737488351232) (h2 : t.size ≤ 140737488351232) (h3 : g.size ≤ 140737488351232) (w : World) : Calls Try.prog 7 #[.string s, .string t, .string g] w fun e w' => e = .returned (.bool true) ∧ Below w.heap.size w w' :=
  (readboth_all s t g h1 h2 h3 w).mono fun e w' h => ⟨h.1, h.2.to_below' (fun _ x => x.elim)⟩

set_option maxRecDepth 100000 in
set_option linter.constructorNameAsVariable false in
theorem lifted_walk {H : Type} {enc : TypeId × Value → H} (W : World) (base : Nat) (v0 : Value) (d0 : DataW H) (p0 : List MemPlace) (v1 : Value) (d1 : DataW H) (p1 : List MemPlace) (v2 : Value) (d2 : DataW H) (p2 : List MemPlace)
    (hval0 : Value.okWide Try.prog W .any base 9 v0) (k0 : DataW.Trod enc Try.prog W 0 (fun _ => true) true 9 v0 d0 p0)
    (hval1 : Value.okWide Try.prog W .any base 9 v1) (k1 : DataW.Trod enc Try.prog W 0 (fun _ => true) true 9 v1 d1 p1)
    (hval2 : Value.okWide Try.prog W .any base 9 v2) (k2 : DataW.Trod enc Try.prog W 0 (fun _ => true) true 9 v2 d2 p2)
    (hr : (∀ b, d0 = .lit (.string b) → b.length ≤ reachBytes) ∧ (∀ b, d1 = .lit (.string b) → b.length ≤ reachBytes) ∧ (∀ b, d2 = .lit (.string b) → b.length ≤ reachBytes)) :
    Calls Try.prog 7 #[v0, v1, v2] W fun e W' => e = .returned (.bool true) ∧ Below W.heap.size W W' := by
  obtain ⟨s, hs, hd, _⟩ := open_string Try.underlying9 hval0 k0
  obtain ⟨t, ht, hd2, _⟩ := open_string Try.underlying9 hval1 k1
  obtain ⟨g, hg, hd3, _⟩ := open_string Try.underlying9 hval2 k2
  subst hs ht hg
  have b1 := hr.1 _ hd
  have b2 := hr.2.1 _ hd2
  have b3 := hr.2.2 _ hd3
  rw [← Lib.size_eq] at b1 b2 b3
  exact walk s t g b1 b2 b3 W

theorem own : ownKnob Try.prog.godebug = none := by kernel_rfl
theorem laidOut : laidOutB Try.prog = true := by kernel_rfl
set_option maxRecDepth 100000 in
theorem lifted (os : Os) (started : os.Started) (H : Type) (enc : TypeId × Value → H) :
    ReturnsInHanded {} Try.checked os 7 .any (Rows.readBothSpec.pre6 enc Try.prog Try.f7 Rows.readBothRow.domain false) (Rows.readBothSpec.post enc Try.prog Try.f7 false true false false) := by
  refine returnsInHanded_of_change_sized (C := Try.checked) own started (by kernel_rfl) Try.func7
    (ChangeSpec.witness6 (enc := enc) (C := Try.checked) false ⟨#[], #[.string ByteArray.empty, .string ByteArray.empty, .string ByteArray.empty], []⟩ 8 (by kernel_rfl) (by kernel_rfl) (by kernel_rfl) (by kernel_rfl)) ?_
  intro W base args ds gs before hval0 hW hcnd hsz0 hsz
  have hval : ∀ (j : Nat) t v, Try.f7.params[j]? = some t → args[j]? = some v → Value.okWide Try.prog W .any base t v := hval0
  have hW' := hW
  obtain ⟨p, q, hA0, hV, rfl, hfz, hnd⟩ := hW
  have hA : DataW.TrodAll enc Try.prog W 0 (fun _ => true) true Try.f7.params.toList args.toList ds p := hA0
  rw [Try.params7] at hA hval
  have hszz : (DataW.weightsEach Try.prog (Try.f7.params.toList ++ Rows.readBothSpec.plain.varTypes Try.prog) (ds ++ gs)).all (· ≤ reachBytes) = true := hsz0
  rw [Try.params7] at hszz
  obtain ⟨v0, vs0, d0, ds0, p0, q0, hargs, rfl, rfl, h0, r0⟩ := trodAll_cons hA
  obtain ⟨v1, vs1, d1, ds1, p1, q1, rfl, rfl, rfl, h1, r1⟩ := trodAll_cons r0
  obtain ⟨v2, vs2, d2, ds2, p2, q2, rfl, rfl, rfl, h2, r2⟩ := trodAll_cons r1
  obtain ⟨rfl, rfl, rfl⟩ := trodAll_nil r2
  obtain rfl : args = #[v0, v1, v2] := by cases args; simp_all
  obtain ⟨rfl, rfl⟩ := trodVars_none hV
  have k0 := h0
  have lt0 : ∀ x ∈ p0, x.block < W.heap.size := by obtain ⟨m, hm⟩ := k0; exact DataW.trod_lt m _ _ _ hm
  have k1 := h1
  have lt1 : ∀ x ∈ p1, x.block < W.heap.size := by obtain ⟨m, hm⟩ := k1; exact DataW.trod_lt m _ _ _ hm
  have k2 := h2
  have lt2 : ∀ x ∈ p2, x.block < W.heap.size := by obtain ⟨m, hm⟩ := k2; exact DataW.trod_lt m _ _ _ hm
  refine (lifted_walk W base v0 d0 p0 v1 d1 p1 v2 d2 p2 (hval 0 9 v0 rfl rfl) k0 (hval 1 9 v1 rfl rfl) k1 (hval 2 9 v2 rfl rfl) k2 ?hreach).mono fun e W' ⟨he, bel⟩ => ?_
  case hreach => exact ⟨fun b h => by subst h; exact sized_string hszz (j := 0) rfl rfl, fun b h => by subst h; exact sized_string hszz (j := 1) rfl rfl, fun b h => by subst h; exact sized_string hszz (j := 2) rfl rfl⟩
  subst he
  exact ⟨_, rfl, _, _, _, [], _, [], hW', trodAll_mk1 (shut_bool Try.underlying4 _), (trodAll_cons_mk (Below.trod laidOut (by kernel_rfl) (of_decide_eq_true (by kernel_rfl)) k0 bel lt0) (trodAll_cons_mk (Below.trod laidOut (by kernel_rfl) (of_decide_eq_true (by kernel_rfl)) k1 bel lt1) (trodAll_cons_mk (Below.trod laidOut (by kernel_rfl) (of_decide_eq_true (by kernel_rfl)) k2 bel lt2) trodAll_mk0))), rfl, bel.frame _, fun h => by cases h⟩

theorem over : Rows.readBothRow.holds Try.pinned (OpenSpec.ofChange Rows.readBothSpec) :=
  OpenClaim.holds_of_wide 7 Try.f7 rfl rfl rfl rfl rfl rfl rfl ⟨rfl, rfl, rfl, rfl, rfl⟩ rfl rfl rfl rfl rfl (by kernel_rfl) Try.func7 (by kernel_rfl)
    (of_decide_eq_true (by kernel_rfl)) (by unfold Func.isWrapper; first | (rw [if_pos (by decide +kernel)]; kernel_rfl) | (rw [if_neg (by decide +kernel)]; exact ⟨rfl, rfl⟩))
    (fun os started H enc _ => lifted os started H enc)

/-- The statement. -/
theorem proved : Rows.ReadBothSaid := over
#print axioms proved
end Go.Proofs.Ytnnjhafjcdjobaa.readBoth
