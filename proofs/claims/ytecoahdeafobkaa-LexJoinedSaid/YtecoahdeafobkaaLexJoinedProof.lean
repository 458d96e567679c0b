/- LexJoined: two sources with a new line between have the tokens of both, for every two texts. Conditions: none. -/
import Derived.Test.YtecoahdeafobkaaRows
import Derived.Test.YtecoahdeafobkaaLxV
import Derived.ProofKit
import Derived.OpenShut
import Derived.ShutString
import Derived.ChangeOld
import Derived.ChangeMaps5
import Derived.SizedLaws
namespace Go.Proofs.Ytecoahdeafobkaa.lexJoined
open Go.ChangeShapes Go.WideShapes Go.ChangeAt Go.RowKit Go.ChangeMaps
set_option linter.unusedVariables false

theorem walk (s t : ByteArray) (hr1 : s.size ≤ 140737488351232) (hr2 : t.size ≤ 140737488351232) (w : World) : Calls Try.prog 7 #[.string s, .string t] w fun e w' => e = .returned (.bool true) ∧ Below w.heap.size w w' := by
  by_cases h : decide ((65536 : Int) < (s.size : Int) + t.size + 1) = true
  · have b1 : (s.size : Int) ≤ 140737488351232 := by omega
    have b2 : (t.size : Int) ≤ 140737488351232 := by omega
    clear hr1 hr2
    go_enter Try.func7, Try.ntmps7
    go_wp2_with (go_at_call 9; refine (works_calls _).mono ?_; rintro e w1 ⟨rfl, hu⟩)
    go_ret
    exact ⟨rfl, hu.to_below' (fun _ x => x.elim)⟩
  · replace h : decide ((65536 : Int) < (s.size : Int) + t.size + 1) = false := by simpa using h
    have hsz : (s.size : Int) + t.size + 1 ≤ 65536 := by have := of_decide_eq_false h; omega
    obtain ⟨u, hu⟩ : ∃ u, u = s ++ ⟨#[10]⟩ ++ t := ⟨_, rfl⟩
    have hul : u.data.toList = s.data.toList ++ [10] ++ t.data.toList := by rw [hu]; simp
    have husz := join_size s t u hul
    have hs : Small s := by unfold Small; omega
    have ht : Small t := by unfold Small; omega
    have huS : Small u := by unfold Small; omega
    have nl : ∀ x : ByteArray, (x.size : Int) ≤ 65536 → ¬ decide ((65536 : Int) < x.size) = true := fun x hx => by simp; omega
    obtain ⟨j1, j2⟩ := join_toks1 s t u hul _ 0 rfl (Nat.zero_le _)
    obtain ⟨k1, k2⟩ := join_toks2 s t u hul _ 0 rfl (Nat.zero_le _)
    rw [Nat.add_zero] at k1 k2
    by_cases h1 : tokErr s
    · have h3 : tokErr u := .inr (j1 (h1.resolve_left (nl s (by omega))))
      exact (joined_bad s t u hu hs ht huS hsz (.inl h1) h3 w).mono fun e w' ⟨a, b⟩ => ⟨a, b.to_below' (fun _ x => x.elim)⟩
    · have e1 := (tokErr_not h1).2
      obtain ⟨j3, j4⟩ := j2 e1
      by_cases h2 : tokErr t
      · have h3 : tokErr u := .inr (by rw [j3, k1]; exact h2.resolve_left (nl t (by omega)))
        exact (joined_bad s t u hu hs ht huS hsz (.inr h2) h3 w).mono fun e w' ⟨a, b⟩ => ⟨a, b.to_below' (fun _ x => x.elim)⟩
      · have e2 := (tokErr_not h2).2
        have h3 : ¬ tokErr u := fun x => (x.resolve_left (nl u (by omega))) (by rw [j3, k1]; exact e2)
        exact (joined_good s t u hu hs ht huS hsz h1 h2 h3 _ _ _ rfl rfl rfl (by rw [j4, k2]) (placed_of s e1).pos (placed_of t e2).pos w).mono fun e w' ⟨a, b⟩ => ⟨a, b.to_below' (fun _ x => x.elim)⟩

set_option maxRecDepth 100000 in
set_option linter.constructorNameAsVariable false in
theorem lifted_walk {H : Type} {enc : TypeId × Value → H} (W : World) (base : Nat) (v0 : Value) (d0 : DataW H) (p0 : List MemPlace) (v1 : Value) (d1 : DataW H) (p1 : List MemPlace)
    (hval0 : Value.okWide Try.prog W .any base 9 v0) (k0 : DataW.Trod enc Try.prog W 0 (fun _ => true) true 9 v0 d0 p0)
    (hval1 : Value.okWide Try.prog W .any base 9 v1) (k1 : DataW.Trod enc Try.prog W 0 (fun _ => true) true 9 v1 d1 p1)
    (hr : (∀ b, d0 = .lit (.string b) → b.length ≤ reachBytes) ∧ (∀ b, d1 = .lit (.string b) → b.length ≤ reachBytes)) :
    Calls Try.prog 7 #[v0, v1] W fun e W' => e = .returned (.bool true) ∧ Below W.heap.size W W' := by
  obtain ⟨s, hv, hd, _⟩ := open_string Try.underlying9 hval0 k0
  obtain ⟨t, hv2, hd2, _⟩ := open_string Try.underlying9 hval1 k1
  subst hv hv2
  have b1 := hr.1 _ hd
  have b2 := hr.2 _ hd2
  rw [← Lib.size_eq] at b1 b2
  exact walk s t b1 b2 W

theorem own : ownKnob Try.prog.godebug = none := by kernel_rfl
theorem laidOut : laidOutB Try.prog = true := by kernel_rfl
set_option maxRecDepth 100000 in
theorem lifted (os : Os) (started : os.Started) (H : Type) (enc : TypeId × Value → H) :
    ReturnsInHanded {} Try.checked os 7 .any (Rows.lexJoinedSpec.pre6 enc Try.prog Try.f7 Rows.lexJoinedRow.domain false) (Rows.lexJoinedSpec.post enc Try.prog Try.f7 false true false false) := by
  refine returnsInHanded_of_change_sized (C := Try.checked) own started (by kernel_rfl) Try.func7
    (ChangeSpec.witness6 (enc := enc) (C := Try.checked) false ⟨#[], #[.string ByteArray.empty, .string ByteArray.empty], []⟩ 8 (by kernel_rfl) (by kernel_rfl) (by kernel_rfl) (by kernel_rfl)) ?_
  intro W base args ds gs before hval0 hW hcnd hsz0 hsz
  have hval : ∀ (j : Nat) t v, Try.f7.params[j]? = some t → args[j]? = some v → Value.okWide Try.prog W .any base t v := hval0
  have hW' := hW
  obtain ⟨p, q, hA0, hV, rfl, hfz, hnd⟩ := hW
  have hA : DataW.TrodAll enc Try.prog W 0 (fun _ => true) true Try.f7.params.toList args.toList ds p := hA0
  rw [Try.params7] at hA hval
  have hszz : (DataW.weightsEach Try.prog (Try.f7.params.toList ++ Rows.lexJoinedSpec.plain.varTypes Try.prog) (ds ++ gs)).all (· ≤ reachBytes) = true := hsz0
  rw [Try.params7] at hszz
  obtain ⟨v0, vs0, d0, ds0, p0, q0, hargs, rfl, rfl, h0, r0⟩ := trodAll_cons hA
  obtain ⟨v1, vs1, d1, ds1, p1, q1, rfl, rfl, rfl, h1, r1⟩ := trodAll_cons r0
  obtain ⟨rfl, rfl, rfl⟩ := trodAll_nil r1
  obtain rfl : args = #[v0, v1] := by cases args; simp_all
  obtain ⟨rfl, rfl⟩ := trodVars_none hV
  have k0 := h0
  have lt0 : ∀ x ∈ p0, x.block < W.heap.size := by obtain ⟨m, hm⟩ := k0; exact DataW.trod_lt m _ _ _ hm
  have k1 := h1
  have lt1 : ∀ x ∈ p1, x.block < W.heap.size := by obtain ⟨m, hm⟩ := k1; exact DataW.trod_lt m _ _ _ hm
  refine (lifted_walk W base v0 d0 p0 v1 d1 p1 (hval 0 9 v0 rfl rfl) k0 (hval 1 9 v1 rfl rfl) k1 ?hreach).mono fun e W' ⟨he, bel⟩ => ?_
  case hreach => exact ⟨fun b h => by subst h; exact sized_string hszz (j := 0) rfl rfl, fun b h => by subst h; exact sized_string hszz (j := 1) rfl rfl⟩
  subst he
  exact ⟨_, rfl, _, _, _, [], _, [], hW', trodAll_mk1 (shut_bool Try.underlying4 _), (trodAll_cons_mk (Below.trod laidOut (by kernel_rfl) (of_decide_eq_true (by kernel_rfl)) k0 bel lt0) (trodAll_cons_mk (Below.trod laidOut (by kernel_rfl) (of_decide_eq_true (by kernel_rfl)) k1 bel lt1) trodAll_mk0)), rfl, bel.frame _, fun h => by cases h⟩

theorem over : Rows.lexJoinedRow.holds Try.pinned (OpenSpec.ofChange Rows.lexJoinedSpec) :=
  OpenClaim.holds_of_wide 7 Try.f7 rfl rfl rfl rfl rfl rfl rfl ⟨rfl, rfl, rfl, rfl, rfl⟩ rfl rfl rfl rfl rfl (by kernel_rfl) Try.func7 (by kernel_rfl)
    (of_decide_eq_true (by kernel_rfl)) (by unfold Func.isWrapper; first | (rw [if_pos (by decide +kernel)]; kernel_rfl) | (rw [if_neg (by decide +kernel)]; exact ⟨rfl, rfl⟩))
    (fun os started H enc _ => lifted os started H enc)

/-- The statement. -/
theorem proved : Rows.LexJoinedSaid := over
#print axioms proved
end Go.Proofs.Ytecoahdeafobkaa.lexJoined
