/- Read: the reference's WholeData, of data that are lent and untouched. -/
import Derived.Test.YtnnjhafjcdjobaaWwE
namespace Go.Proofs.Ytnnjhafjcdjobaa
open Go.RowKit
set_option linter.unusedVariables false
set_option linter.unusedSimpArgs false

def WDATUM (x : Dat) : Prop := ∀ (kx ky : Value) (G : Nat → Prop) (w : World), Lent w G kx x.kids → Sees w All ky x.kids → Calls Try.prog 81 #[datV x kx, datV x ky] w fun e w' => e = .returned (.bool true) ∧ New w w'
theorem lent_at {w : World} {g : Nat} {es : List El} (h : ∀ j u, (elCells (es ++ [m77]))[j]? = some u → w.cell? ⟨g, j, none⟩ = some u) (j : Nat) (hj : j < es.length) : w.cell? ⟨g, j * 5, none⟩ = some (.int .u8 es[j].d.k) ∧ w.cell? ⟨g, j * 5 + 1, none⟩ = some (.int .i64 es[j].d.n) ∧ w.cell? ⟨g, j * 5 + 2, none⟩ = some (.string es[j].d.t) ∧ w.cell? ⟨g, j * 5 + 3, none⟩ = some es[j].kv ∧ w.cell? ⟨g, j * 5 + 4, none⟩ = some (.bool es[j].d.dot) := by
  have h1 : j < (es ++ [m77]).length := by rw [List.length_append]; omega
  have h2 : (es ++ [m77])[j] = es[j] := List.getElem_append_left hj
  refine ⟨?_, ?_, ?_, ?_, ?_⟩
  · exact h (j * 5) _ ((elCells_get _ j h1 0 (by omega)).trans (by rw [h2]; rfl))
  · exact h (j * 5 + 1) _ ((elCells_get _ j h1 1 (by omega)).trans (by rw [h2]; rfl))
  · exact h (j * 5 + 2) _ ((elCells_get _ j h1 2 (by omega)).trans (by rw [h2]; rfl))
  · exact h (j * 5 + 3) _ ((elCells_get _ j h1 3 (by omega)).trans (by rw [h2]; rfl))
  · exact h (j * 5 + 4) _ ((elCells_get _ j h1 4 (by omega)).trans (by rw [h2]; rfl))
theorem lent_mark {w : World} {g : Nat} {es : List El} (h : ∀ j u, (elCells (es ++ [m77]))[j]? = some u → w.cell? ⟨g, j, none⟩ = some u) : w.cell? ⟨g, es.length * 5, none⟩ = some (.int .u8 0) ∧ w.cell? ⟨g, es.length * 5 + 1, none⟩ = some (.int .i64 (-77)) ∧ w.cell? ⟨g, es.length * 5 + 3, none⟩ = some (.slice none 0 0) := by
  have h1 : es.length < (es ++ [m77]).length := by rw [List.length_append]; simp
  have h2 : (es ++ [m77])[es.length] = m77 := by simp
  refine ⟨?_, ?_, ?_⟩
  · exact h (es.length * 5) _ ((elCells_get _ _ h1 0 (by omega)).trans (by rw [h2]; rfl))
  · exact h (es.length * 5 + 1) _ ((elCells_get _ _ h1 1 (by omega)).trans (by rw [h2]; rfl))
  · exact h (es.length * 5 + 3) _ ((elCells_get _ _ h1 3 (by omega)).trans (by rw [h2]; rfl))
set_option maxHeartbeats 4000000 in
set_option maxRecDepth 20000 in
theorem wdata_of (l : List Dat) (ih : ∀ d ∈ l, WDATUM d) : ∀ (kx ky : Value) (G : Nat → Prop) (w : World), Lent w G kx l → Sees w All ky l → Calls Try.prog 26 #[kx, ky] w fun e w' => e = .returned (.bool true) ∧ New w w' := by
  intro kx ky G w hx hy
  obtain ⟨g, c, es, rfl, rfl, hG, hlt, hcc, hcells, hn, hk⟩ := hx.inv
  obtain ⟨es2, hes, hsy, hny, hky⟩ := hy.inv
  obtain ⟨A2, c2, rfl⟩ := hsy.form
  have hll : es2.length = es.length := by have := congrArg List.length hes; simpa using this.symm
  have HSY := Lib.hid hsy
  have HKX := Lib.hid hk
  have HKY := Lib.hid hky
  have HIH := Lib.hid ih
  have HES := Lib.hid hes
  have HLL := Lib.hid hll
  rw [hll] at HSY ⊢
  have e1 : (es.length : Int) ≤ 2000000 := by omega
  have e2 : (0 : Int) ≤ es.length := by omega
  have e3 : IntKind.i64.wrap ((es.length : Int) + 1) = (es.length : Int) + 1 := IntWalk.i64_in _ (by omega)
  have e4 : decide ((c : Int) < (es.length : Int) + 1) = false := by simp; omega
  have e5 : (es.length : Int) + 1 ≤ c := by omega
  have e6 : es.length + 1 ≤ c := hcc
  have e7 : (0 : Int) ≤ (es.length : Int) + 1 := by omega
  have e8 : (es.length : Int) < (es.length : Int) + 1 := by omega
  obtain ⟨m0, m1, m3⟩ := lent_mark hcells
  have HCE := Lib.hid hcells
  clear hx hy hsy hk hky ih hny hn hes hll hcells hcc
  go_enter Try.func26, Try.ntmps26
  go_wp2_with fail
  go_loopw [6] (fun i wr => New w wr ∧ ∃ j : Nat, j ≤ es.length ∧ i = .int .i64 j) (fun i _ => es.length - (intOf i).toNat)
  case atStart => exact ⟨Upd.refl (fun _ => False) w, 0, Nat.zero_le _, rfl⟩
  case round =>
    obtain ⟨hn, j, hj, rfl⟩ := hrel
    have HN := Lib.hid hn
    clear hn
    by_cases hjl : j < es.length
    · have hjl2 : j < es2.length := by rw [HLL.out]; exact hjl
      obtain ⟨X0, X1, X2, X3, X4⟩ := lent_at HCE.out j hjl
      have x0 := HN.out.cell X0 (fun x => x)
      have x1 := HN.out.cell X1 (fun x => x)
      have x2 := HN.out.cell X2 (fun x => x)
      have x3 := HN.out.cell X3 (fun x => x)
      have x4 := HN.out.cell X4 (fun x => x)
      have hsy2 : Seen w All (.slice A2 es2.length c2) es2 := by rw [HLL.out]; exact HSY.out
      obtain ⟨g2, o2, cc2, hA2, hG2, hlt2, y0, y1, y2, y3, y4⟩ := (hsy2.new HN.out).at j hjl2
      simp only [Value.slice.injEq] at hA2
      obtain ⟨rfl, -, -⟩ := hA2
      have hd : es2[j].d = es[j].d := by
        have h1 := congrArg (fun l => l[j]?) HES.out
        simp only [List.getElem?_map, List.getElem?_eq_getElem hjl, List.getElem?_eq_getElem hjl2, Option.map_some, Option.some.injEq] at h1
        exact h1.symm
      rw [hd] at y0 y1 y2 y4
      have j0 : (0 : Int) ≤ j := by omega
      have j1 : (j : Int) < es.length := by omega
      have j3 : IntKind.i64.wrap ((j : Int) + 1) = (j : Int) + 1 := IntWalk.i64_in _ (by omega)
      have hc := fun w' (hh : New wr w') => HIH.out _ (List.mem_map.2 ⟨es[j], List.getElem_mem hjl, rfl⟩) es[j].kv es2[j].kv G w' ((HKX.out es[j] (List.getElem_mem hjl)).new (HN.out.trans hh)) (by have := (HKY.out es2[j] (List.getElem_mem hjl2)).new (HN.out.trans hh); rw [hd] at this; exact this)
      have HC := Lib.hid hc
      clear hc hsy2 hd X0 X1 X2 X3 X4
      generalize hV : es[j] = X at *
      generalize hV2 : es2[j] = Y at *
      clear hV hV2
      unfold datV at HC
      clear m0 m1 m3 e3 e4 e5 e6 e7 e8
      go_wp2_with fail
      go_region_held3 (fun w' => w'.cell? ⟨g, j * 5, none⟩ = some (.int .u8 X.d.k) ∧ w'.cell? ⟨g, j * 5 + 1, none⟩ = some (.int .i64 X.d.n) ∧ w'.cell? ⟨g, j * 5 + 2, none⟩ = some (.string X.d.t) ∧ w'.cell? ⟨g, j * 5 + 3, none⟩ = some X.kv ∧ w'.cell? ⟨g, j * 5 + 4, none⟩ = some (.bool X.d.dot) ∧ w'.cell? ⟨g2, o2 + j * 5, none⟩ = some (.int .u8 X.d.k) ∧ w'.cell? ⟨g2, o2 + j * 5 + 1, none⟩ = some (.int .i64 X.d.n) ∧ w'.cell? ⟨g2, o2 + j * 5 + 2, none⟩ = some (.string X.d.t) ∧ w'.cell? ⟨g2, o2 + j * 5 + 3, none⟩ = some Y.kv ∧ w'.cell? ⟨g2, o2 + j * 5 + 4, none⟩ = some (.bool X.d.dot)) (simp [*])
        ((go_simp; go_at_call 81; refine (HC.out _ ((Upd.refl (fun _ => False) wr).drew)).mono ?_; rintro e w3 ⟨rfl, hu3⟩; have z0 := hu3.cell (w := wr.drew) x0 (fun x => x); have z1 := hu3.cell (w := wr.drew) x1 (fun x => x); have z2 := hu3.cell (w := wr.drew) x2 (fun x => x); have z3 := hu3.cell (w := wr.drew) x3 (fun x => x); have z4 := hu3.cell (w := wr.drew) x4 (fun x => x); have z5 := hu3.cell (w := wr.drew) y0 (fun x => x); have z6 := hu3.cell (w := wr.drew) y1 (fun x => x); have z7 := hu3.cell (w := wr.drew) y2 (fun x => x); have z8 := hu3.cell (w := wr.drew) y3 (fun x => x); have z9 := hu3.cell (w := wr.drew) y4 (fun x => x); have HU3 := Lib.hid hu3; clear hu3))
      go_wp2_with fail
      go_roundw
      case measure => simp [intOf]; omega
      case rel =>
        exact ⟨HN.out.trans (((Upd.refl (fun _ => False) wr).drew).trans HU3.out), j + 1, by omega, by simp⟩
    · have j1 : ¬ (j : Int) < es.length := by omega
      go_wp2_with fail
      go_ret
      exact ⟨rfl, HN.out⟩
set_option maxHeartbeats 4000000 in
set_option maxRecDepth 20000 in
theorem wdatum_calls : ∀ x, WDATUM x := by
  intro x
  induction x using Dat.ind with
  | h k n t kids dot ih =>
    rintro kx ky G w hx hy
    simp only [Dat.kids] at hx hy
    have hsd := wdata_of kids ih kx ky G
    obtain ⟨A, c, rfl⟩ := hx.form
    obtain ⟨es2, hes2, hsy, hny, hky⟩ := hy.inv
    obtain ⟨A2, c2, rfl⟩ := hsy.form
    clear hes2 hsy hny hky ih
    generalize kids.length = N at *
    generalize es2.length = N2 at *
    unfold datV
    simp only [Dat.k, Dat.n, Dat.t, Dat.dot]
    have h1 := halloc (heap_alloc_new w (.cells #[.int .u8 k, .int .i64 n, .string t, .slice A N c, .bool dot] 58)) (.cells #[.int .u8 k, .int .i64 n, .string t, .slice A2 N2 c2, .bool dot] 58)
    have h2 := heap_alloc_new (w.alloc (.cells #[.int .u8 k, .int .i64 n, .string t, .slice A N c, .bool dot] 58)) (.cells #[.int .u8 k, .int .i64 n, .string t, .slice A2 N2 c2, .bool dot] 58)
    have hup := ((Upd.refl (fun _ => False) w).alloc (.cells #[.int .u8 k, .int .i64 n, .string t, .slice A N c, .bool dot] 58)).alloc (.cells #[.int .u8 k, .int .i64 n, .string t, .slice A2 N2 c2, .bool dot] 58)
    simp only [World.size_alloc] at h2
    have HSD := Lib.hid (hsd _ (hx.new hup) (hy.new hup))
    have HU := Lib.hid hup
    obtain ⟨⟨a0, a1, a2, a3, a4⟩, af⟩ := blk5 h1
    obtain ⟨⟨b0, b1, b2, b3, b4⟩, bf⟩ := blk5 h2
    clear hx hy h1 h2 hup hsd
    go_enter Try.func81, Try.ntmps81
    go_wp2_with fail
    refine HSD.out.mono ?_
    rintro e w3 ⟨rfl, hu3⟩
    have HU3 := Lib.hid (HU.out.trans hu3)
    clear hu3
    go_wp2_with fail
    go_ret
    exact ⟨rfl, HU3.out⟩
/-- WholeData, of lists that are lent. -/
theorem wholedata_calls (l : List Dat) (kx ky : Value) (G : Nat → Prop) (w : World) (hx : Lent w G kx l) (hy : Sees w All ky l) : Calls Try.prog 26 #[kx, ky] w fun e w' => e = .returned (.bool true) ∧ New w w' :=
  wdata_of l (fun d _ => wdatum_calls d) kx ky G w hx hy
end Go.Proofs.Ytnnjhafjcdjobaa
