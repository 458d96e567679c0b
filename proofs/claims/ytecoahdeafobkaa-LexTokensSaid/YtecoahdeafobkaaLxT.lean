/- Lex: placed. -/
import Derived.Test.YtecoahdeafobkaaLxS
import Derived.Laws.StructEq
import Derived.Deep.QuietTactic
import Derived.BigQuiet
import Derived.IntWalk
namespace Go.Proofs.Ytecoahdeafobkaa
open Go.RowKit
set_option linter.unusedVariables false
set_option linter.unusedSimpArgs false

section
variable {P : Program} {d : Nat} {xs ys : Array Value} {f : Field} {fs : List Field} {a b : Value} {r s : Bool} {w : World}
theorem sq_one (hn : (f.name == "_") = false) (ha : (part f.type xs f.offset).run P w = .ok a w) (hb : (part f.type ys f.offset).run P w = .ok b w) (he : (Op.equalIn d f.type a b).run P w = .ok r w) : (Op.eqFields d xs ys [f]).run P w = .ok r w := by
  have hne : f.name ≠ "_" := by simpa using hn
  rw [Op.eqFields, if_pos hne]
  simp only [Sem.run_bind, ha, hb, he, Result.andThen_ok]
  cases r <;> simp [Op.eqFields]
theorem sq_more (hn : (f.name == "_") = false) (ha : (part f.type xs f.offset).run P w = .ok a w) (hb : (part f.type ys f.offset).run P w = .ok b w) (he : (Op.equalIn d f.type a b).run P w = .ok r w) (hr : (Op.eqFields d xs ys fs).run P w = .ok s w) : (Op.eqFields d xs ys (f :: fs)).run P w = .ok (r && s) w := by
  have hne : f.name ≠ "_" := by simpa using hn
  rw [Op.eqFields, if_pos hne]
  simp only [Sem.run_bind, ha, hb, he, Result.andThen_ok]
  cases r
  · simp
  · simpa using hr
theorem sq_struct {t : TypeId} {fs : Array Field} (hu : P.underlying t = some (.struct fs)) (hp : P.stoodInHeld t = false) (h : (Op.eqFields d xs ys fs.toList).run P w = .ok r w) : (Op.equalIn (d + 1) t (.agg xs) (.agg ys)).run P w = .ok r w := by
  have hf : P.fieldsOf t = fs := by simp [Program.fieldsOf, hu]
  rw [run_equalIn_struct (P := P) w d t xs ys (by rw [hf]; exact hu) hp, hf]
  exact h
end
theorem eqTok (d : Nat) (w : World) (k n a : Int) (t : ByteArray) :
    (Op.equalIn (d + 2) 34 (.agg #[.int .u8 k, .string t, .int .i64 n, .int .i64 a]) (.agg #[.int .u8 k, .string t, .int .i64 n, .int .i64 a])).run Try.prog w = .ok true w := by
  have h : (Op.equalIn (d + 2) 34 (.agg #[.int .u8 k, .string t, .int .i64 n, .int .i64 a]) (.agg #[.int .u8 k, .string t, .int .i64 n, .int .i64 a])).run Try.prog w = .ok (true && (true && (true && true))) w := by
    refine sq_struct Try.underlying34 (by kernel_rfl) ?_
    refine sq_more (by rfl) (by go_simp; rfl) (by go_simp; rfl) (by go_simp) ?_
    refine sq_more (by rfl) (by go_simp; rfl) (by go_simp; rfl) (by go_simp) ?_
    refine sq_more (by rfl) (by go_simp; rfl) (by go_simp; rfl) (by go_simp) ?_
    exact sq_one (by rfl) (by go_simp; rfl) (by go_simp; rfl) (by go_simp)
  exact h
attribute [local go_sem high] eqTok

/-- A slice that reads as a list of tokens. -/
def Toks (w : World) (g : Nat) (L : List Tok) : Prop := g < w.heap.size ∧ ∀ j u, (tokCells L)[j]? = some u → w.cell? ⟨g, j, none⟩ = some u
theorem Toks.new {w w' : World} {g : Nat} {L : List Tok} (h : Toks w g L) (hn : New w w') : Toks w' g L :=
  ⟨Nat.lt_of_lt_of_le h.1 hn.size, fun j u hj => hn.cell (h.2 j u hj) (fun x => x)⟩
theorem tokCells_at (L : List Tok) (i : Nat) (x : Tok) (h : L[i]? = some x) (j : Nat) (hj : j < 4) : (tokCells L)[i * 4 + j]? = x.cells[j]? := by
  induction L generalizing i with
  | nil => simp at h
  | cons y L ih =>
    simp only [tokCells, List.flatMap_cons]
    cases i with
    | zero =>
      simp at h
      subst h
      rw [Nat.zero_mul, Nat.zero_add, List.getElem?_append_left (by simp [Tok.cells]; omega)]
    | succ i =>
      rw [List.getElem?_append_right (by simp [Tok.cells]; omega)]
      have := ih i (by simpa using h)
      rw [show (i + 1) * 4 + j - y.cells.length = i * 4 + j from by simp [Tok.cells]; omega]
      exact this
theorem Toks.at_ {w : World} {g : Nat} {L : List Tok} (h : Toks w g L) {i : Nat} {x : Tok} (hi : L[i]? = some x) :
    w.cell? ⟨g, i * 4, none⟩ = some (.int .u8 x.k) ∧ w.cell? ⟨g, i * 4 + 1, none⟩ = some (.string x.t) ∧ w.cell? ⟨g, i * 4 + 2, none⟩ = some (.int .i64 x.n) ∧ w.cell? ⟨g, i * 4 + 3, none⟩ = some (.int .i64 x.a) := by
  refine ⟨h.2 _ _ ?_, h.2 _ _ ?_, h.2 _ _ ?_, h.2 _ _ ?_⟩
  · have := tokCells_at L i x hi 0 (by omega); simpa [Tok.cells] using this
  · have := tokCells_at L i x hi 1 (by omega); simpa [Tok.cells] using this
  · have := tokCells_at L i x hi 2 (by omega); simpa [Tok.cells] using this
  · have := tokCells_at L i x hi 3 (by omega); simpa [Tok.cells] using this
theorem Toks.of_own {w : World} {base g m cap : Nat} {L : List Tok} (h : w.ownsRow base 34 4 (.slice (some ⟨g, 0, none⟩) m cap) m (tokCells L)) : Toks w g L := by
  refine ⟨(own_lt h g rfl).2, fun j u hj => ?_⟩
  have := own_cells h j u hj
  have e : Addr.add ⟨g, 0, none⟩ j = ⟨g, j, none⟩ := by unfold Addr.add; split <;> simp_all
  rw [← e]; exact this

structure Placed (s : ByteArray) (L : List Tok) : Prop where
  last : L[L.length - 1]? = some ⟨9, ⟨#[]⟩, 0, s.size⟩
  pos : 0 < L.length
  step : ∀ i, i + 1 < L.length → ∃ x y, L[i]? = some x ∧ L[i + 1]? = some y ∧ x.a < y.a ∧ x.k ≠ 9

theorem placed_of (s : ByteArray) (h0 : (toks s 0).2.1 = 0) : Placed s (toks s 0).1 := by
  obtain ⟨L, hL, hk⟩ := toks_last s _ 0 rfl (Nat.zero_le _) h0
  refine ⟨by rw [hL]; simp, by rw [hL]; simp, fun i hi => ?_⟩
  have hx : (toks s 0).1[i]? = some ((toks s 0).1[i]) := List.getElem?_eq_getElem (by omega)
  have hxk : ((toks s 0).1[i]).k ≠ 9 := by
    refine hk _ ?_
    have hi2 : i < L.length := by rw [hL] at hi; simpa using hi
    have h1 : (toks s 0).1[i]? = L[i]? := by rw [hL, List.getElem?_append_left hi2]
    rw [hx] at h1
    exact List.mem_of_getElem? h1.symm
  obtain ⟨p, y, hr, hy, h1, h2, _⟩ := toks_reads s h0 i _ hx hxk
  exact ⟨_, y, hx, hy, by have := hr.lt; omega, hxk⟩

set_option maxHeartbeats 1000000 in
theorem placed_calls (s : ByteArray) (hs : Small s) (g m cap : Nat) (L : List Tok) (w : World) (hm : (m : Int) ≤ 1048577) (hlen : L.length = m) (ht : Toks w g L) (hp : Placed s L) :
    Calls Try.prog 13 #[.string s, .slice (some ⟨g, 0, none⟩) m cap] w fun e w' => e = .returned (.bool true) ∧ New w w' := by
  have hsz := hs.le
  have h0 : 0 < m := by rw [← hlen]; exact hp.pos
  obtain ⟨x0, hx0⟩ : ∃ x, L[0]? = some x := ⟨_, List.getElem?_eq_getElem (by omega)⟩
  have hlast := hp.last
  rw [hlen] at hlast
  obtain ⟨l0, l1, l2, l3⟩ := ht.at_ hlast
  have hf := ht.at_ hx0
  have f3 : w.cell? ⟨g, 3, none⟩ = some (.int .i64 x0.a) := by simpa using hf.2.2.2
  dsimp only at l0 l1 l2 l3
  have m0 : ((m : Int) == 0) = false := by rw [beq_eq_false_iff_ne]; omega
  have m1 : (0 : Int) < m := by omega
  have m2 : (0 : Int) ≤ (m : Int) - 1 := by omega
  have m3 : (m : Int) - 1 < m := by omega
  have m4 : ¬ (x0.a : Int) < 0 := by omega
  have HT := Lib.hid ht
  have HP := Lib.hid hp
  have HL := Lib.hid hlen
  clear ht hp hlast hx0 hf hlen
  go_enter Try.func13, Try.ntmps13
  go_wp2
  go_loopw [5] (fun i wr => ∃ k : Nat, k < m ∧ i = .int .i64 k ∧ New w wr) (fun i _ => m - (intOf i).toNat)
  case atStart => exact ⟨0, h0, rfl, Upd.refl _ _⟩
  case round =>
    obtain ⟨k, hk, rfl, hnew⟩ := hrel
    have HN := Lib.hid hnew
    clear hnew
    by_cases hlt : k + 1 < m
    · obtain ⟨x, y, hx, hy, hxy, hk9⟩ := HP.out.step k (by rw [HL.out]; exact hlt)
      have ht := HT.out.new HN.out
      obtain ⟨a0, a1, a2, a3⟩ := ht.at_ hx
      obtain ⟨b0, b1, b2, b3⟩ := ht.at_ hy
      clear ht a1 a2 b0 b1 b2 l0 l1 l2 l3 f3
      have e1 : decide (y.a ≤ x.a) = false := by simp; omega
      have e2 : (x.k == 9) = false := by simpa using hk9
      have i0 : (0 : Int) ≤ k := by omega
      have i1 : (k : Int) < m := by omega
      have i2 : (0 : Int) ≤ (k : Int) + 1 := by omega
      have i3 : (k : Int) + 1 < m := by omega
      clear hx hy hxy hk9
      have q0 : IntKind.i64.wrap ((k : Int) + 1) = (k : Int) + 1 := IntWalk.i64_in _ (by omega)
      have q1 : ((k : Int) + 1).toNat = k + 1 := by omega
      go_wp2_with fail
      go_quiet (fail)
      go_wp2_with fail
      go_roundw
      case rel => exact ⟨k + 1, by omega, by go_num, by first | exact HN.out | exact HN.out.drewN _⟩
      case measure => simp [intOf]; omega
    · have i3 : ¬ (k : Int) + 1 < m := by omega
      go_wp2_with fail
      go_ret
      exact ⟨rfl, HN.out⟩
end Go.Proofs.Ytecoahdeafobkaa
