/- Read: the reference's Same; data that are lent, and whether they are whole. -/
import Derived.Test.YtnnjhafjcdjobaaWwD
import Derived.OwnWalk
namespace Go.Proofs.Ytnnjhafjcdjobaa
open Go.RowKit
set_option linter.unusedVariables false
set_option linter.unusedSimpArgs false

set_option maxHeartbeats 4000000 in
set_option maxRecDepth 20000 in
theorem Rsame_calls : ∀ (x y : Dat) (G : Nat → Prop) (kx ky : Value) (w : World), Sees w G kx x.kids → Sees w G ky y.kids →
    Calls Try.prog 25 #[datV x kx, datV y ky] w fun e w' => e = .returned (.bool (sameB x y)) ∧ New w w' := by
  intro x
  induction x using Dat.ind with
  | h k n t kids dot ih =>
    rintro ⟨k', n', t', kids', dot'⟩ G kx ky w hx hy
    simp only [Dat.kids] at hx hy
    obtain ⟨es, rfl, hsx, hnx, hkx⟩ := hx.inv
    obtain ⟨es2, rfl, hsy, hny, hky⟩ := hy.inv
    obtain ⟨A, c, rfl⟩ := hsx.form
    obtain ⟨A2, c2, rfl⟩ := hsy.form
    unfold datV
    simp only [Dat.k, Dat.n, Dat.t, Dat.dot]
    have h1 := halloc (heap_alloc_new w (.cells #[.int .u8 k, .int .i64 n, .string t, .slice A es.length c, .bool dot] 58)) (.cells #[.int .u8 k', .int .i64 n', .string t', .slice A2 es2.length c2, .bool dot'] 58)
    have h2 := heap_alloc_new (w.alloc (.cells #[.int .u8 k, .int .i64 n, .string t, .slice A es.length c, .bool dot] 58)) (.cells #[.int .u8 k', .int .i64 n', .string t', .slice A2 es2.length c2, .bool dot'] 58)
    have hup := ((Upd.refl (fun _ => False) w).alloc (.cells #[.int .u8 k, .int .i64 n, .string t, .slice A es.length c, .bool dot] 58)).alloc (.cells #[.int .u8 k', .int .i64 n', .string t', .slice A2 es2.length c2, .bool dot'] 58)
    simp only [World.size_alloc] at h2
    have HSX := Lib.hid hsx
    have HSY := Lib.hid hsy
    have HKX := Lib.hid hkx
    have HKY := Lib.hid hky
    have HIH := Lib.hid ih
    have H1 := Lib.hid h1
    have H2 := Lib.hid h2
    have HU := Lib.hid hup
    have e1 : (es.length : Int) ≤ 2000000 := by omega
    have e2 : (0 : Int) ≤ es.length := by omega
    obtain ⟨⟨a0, a1, a2, a3, a4⟩, af⟩ := blk5 h1
    obtain ⟨⟨b0, b1, b2, b3, b4⟩, bf⟩ := blk5 h2
    clear hx hy ih hsx hsy hkx hky h1 h2 hup hnx hny
    by_cases hc : k = k' ∧ n = n' ∧ t = t' ∧ dot = dot' ∧ es.length = es2.length
    · obtain ⟨rfl, rfl, rfl, rfl, hl⟩ := hc
      have hq : ∀ b : Bool, (b = true ↔ es.map El.d = es2.map El.d) → sameB (.mk k n t (es.map El.d) dot) (.mk k n t (es2.map El.d) dot) = b := by
        intro b hb
        cases b with
        | true => exact sameB_true (by rw [hb.1 rfl])
        | false => exact sameB_false (by intro h; simp only [Dat.mk.injEq] at h; exact absurd (hb.2 h.2.2.2.1) (by simp))
      have HQ := Lib.hid hq
      clear hq
      have q6 : ((es.length : Int) != es2.length) = false := by rw [hl]; simp
      generalize hR : sameB (.mk k n t (es.map El.d) dot) (.mk k n t (es2.map El.d) dot) = R at *
      clear hR
      have HL := Lib.hid hl
      clear hl
      go_enter Try.func25, Try.ntmps25
      go_wp2_with fail
      generalize (w.alloc (.cells #[.int .u8 k, .int .i64 n, .string t, .slice A es.length c, .bool dot] 58)).alloc (.cells #[.int .u8 k, .int .i64 n, .string t, .slice A2 es2.length c2, .bool dot] 58) = W at *
      clear a0 a1 a2 a3 a4 b0 b1 b2 b3 b4 af bf
      go_loopw [5] (fun i wr => New W wr ∧ ∃ j : Nat, j ≤ es.length ∧ i = .int .i64 j ∧ ∀ q (h1 : q < es.length) (h2 : q < es2.length), q < j → es[q].d = es2[q].d) (fun i _ => es.length - (intOf i).toNat)
      case atStart => exact ⟨Upd.refl (fun _ => False) W, 0, Nat.zero_le _, rfl, fun q _ _ h => by omega⟩
      case round =>
        obtain ⟨hn, j, hj, rfl, hq⟩ := hrel
        have HN := Lib.hid hn
        have HQQ := Lib.hid hq
        obtain ⟨⟨a0, a1, a2, a3, a4⟩, af⟩ := blk5 (hn.heap H1.out (fun x => x))
        obtain ⟨⟨b0, b1, b2, b3, b4⟩, bf⟩ := blk5 (hn.heap H2.out (fun x => x))
        clear hn hq
        by_cases hjl : j < es.length
        · have hjl2 : j < es2.length := by rw [← HL.out]; exact hjl
          obtain ⟨g, o, cc, hA, hG, hlt, x0, x1, x2, x3, x4⟩ := ((HSX.out.new HU.out).new HN.out).at j hjl
          obtain ⟨g2, o2, cc2, hA2, hG2, hlt2, y0, y1, y2, y3, y4⟩ := ((HSY.out.new HU.out).new HN.out).at j hjl2
          simp only [Value.slice.injEq] at hA hA2
          obtain ⟨rfl, -, -⟩ := hA
          obtain ⟨rfl, -, -⟩ := hA2
          have j0 : (0 : Int) ≤ j := by omega
          have j1 : (j : Int) < es.length := by omega
          have j2 : (j : Int) < es2.length := by omega
          have j3 : IntKind.i64.wrap ((j : Int) + 1) = (j : Int) + 1 := IntWalk.i64_in _ (by omega)
          have hc0 := HIH.out _ (List.mem_map.2 ⟨es[j], List.getElem_mem hjl, rfl⟩) es2[j].d G es[j].kv es2[j].kv
          have hc := fun w' (hh : New wr w') => hc0 w' (((HKX.out es[j] (List.getElem_mem hjl)).new HU.out).new (HN.out.trans hh)) (((HKY.out es2[j] (List.getElem_mem hjl2)).new HU.out).new (HN.out.trans hh))
          have HC := Lib.hid hc
          clear hc hc0
          have hI : ∀ b : Bool, (b = true ↔ es[j].d = es2[j].d) → sameB es[j].d es2[j].d = b := fun b hb => by
            cases b with
            | true => exact sameB_true (hb.1 rfl)
            | false => exact sameB_false (fun h => absurd (hb.2 h) (by simp))
          have HI := Lib.hid hI
          clear hI
          generalize hV : es[j] = X at *
          generalize hV2 : es2[j] = Y at *
          have HV := Lib.hid hV
          have HV2 := Lib.hid hV2
          generalize hB : sameB X.d Y.d = B at *
          clear hV hV2 hB
          unfold datV at HC
          go_wp2_with fail
          cases B with
          | true =>
            go_region_held3 (fun w' => w'.cell? ⟨w.heap.size, 3, none⟩ = some (.slice (some ⟨g, o, none⟩) es.length c) ∧ w'.cell? ⟨w.heap.size + 1, 3, none⟩ = some (.slice (some ⟨g2, o2, none⟩) es2.length c2) ∧
              w'.cell? ⟨g, o + j * 5, none⟩ = some (.int .u8 X.d.k) ∧ w'.cell? ⟨g, o + j * 5 + 1, none⟩ = some (.int .i64 X.d.n) ∧ w'.cell? ⟨g, o + j * 5 + 2, none⟩ = some (.string X.d.t) ∧ w'.cell? ⟨g, o + j * 5 + 3, none⟩ = some X.kv ∧ w'.cell? ⟨g, o + j * 5 + 4, none⟩ = some (.bool X.d.dot) ∧
              w'.cell? ⟨g2, o2 + j * 5, none⟩ = some (.int .u8 Y.d.k) ∧ w'.cell? ⟨g2, o2 + j * 5 + 1, none⟩ = some (.int .i64 Y.d.n) ∧ w'.cell? ⟨g2, o2 + j * 5 + 2, none⟩ = some (.string Y.d.t) ∧ w'.cell? ⟨g2, o2 + j * 5 + 3, none⟩ = some Y.kv ∧ w'.cell? ⟨g2, o2 + j * 5 + 4, none⟩ = some (.bool Y.d.dot)) (simp [*])
              ((go_simp; go_at_call 25; refine (HC.out _ ((Upd.refl (fun _ => False) wr).drew)).mono ?_; rintro e w3 ⟨rfl, hu3⟩; have z0 := hu3.cell (w := wr.drew) a3 (fun x => x); have z1 := hu3.cell (w := wr.drew) b3 (fun x => x); have z2 := hu3.cell (w := wr.drew) x0 (fun x => x); have z3 := hu3.cell (w := wr.drew) x1 (fun x => x); have z4 := hu3.cell (w := wr.drew) x2 (fun x => x); have z5 := hu3.cell (w := wr.drew) x3 (fun x => x); have z6 := hu3.cell (w := wr.drew) x4 (fun x => x); have z7 := hu3.cell (w := wr.drew) y0 (fun x => x); have z8 := hu3.cell (w := wr.drew) y1 (fun x => x); have z9 := hu3.cell (w := wr.drew) y2 (fun x => x); have z10 := hu3.cell (w := wr.drew) y3 (fun x => x); have z11 := hu3.cell (w := wr.drew) y4 (fun x => x); have HU3 := Lib.hid hu3; clear hu3))
            go_wp2_with fail
            go_roundw
            case measure => simp [intOf]; omega
            case rel =>
              refine ⟨HN.out.trans (((Upd.refl (fun _ => False) wr).drew).trans HU3.out), j + 1, by omega, by simp, fun q h1 h2 hq => ?_⟩
              rcases Nat.lt_or_ge q j with h3 | h3
              · exact HQQ.out q h1 h2 h3
              · have : q = j := by omega
                subst this
                rw [HV.out, HV2.out]
                exact Classical.byContradiction fun hne => by have := HI.out false ⟨(fun h => absurd h (by simp)), fun h => absurd h hne⟩; cases this
          | false =>
            go_region_held3 (fun w' => w'.cell? ⟨w.heap.size, 3, none⟩ = some (.slice (some ⟨g, o, none⟩) es.length c) ∧ w'.cell? ⟨w.heap.size + 1, 3, none⟩ = some (.slice (some ⟨g2, o2, none⟩) es2.length c2) ∧
              w'.cell? ⟨g, o + j * 5, none⟩ = some (.int .u8 X.d.k) ∧ w'.cell? ⟨g, o + j * 5 + 1, none⟩ = some (.int .i64 X.d.n) ∧ w'.cell? ⟨g, o + j * 5 + 2, none⟩ = some (.string X.d.t) ∧ w'.cell? ⟨g, o + j * 5 + 3, none⟩ = some X.kv ∧ w'.cell? ⟨g, o + j * 5 + 4, none⟩ = some (.bool X.d.dot) ∧
              w'.cell? ⟨g2, o2 + j * 5, none⟩ = some (.int .u8 Y.d.k) ∧ w'.cell? ⟨g2, o2 + j * 5 + 1, none⟩ = some (.int .i64 Y.d.n) ∧ w'.cell? ⟨g2, o2 + j * 5 + 2, none⟩ = some (.string Y.d.t) ∧ w'.cell? ⟨g2, o2 + j * 5 + 3, none⟩ = some Y.kv ∧ w'.cell? ⟨g2, o2 + j * 5 + 4, none⟩ = some (.bool Y.d.dot)) (simp [*])
              ((go_simp; go_at_call 25; refine (HC.out _ ((Upd.refl (fun _ => False) wr).drew)).mono ?_; rintro e w3 ⟨rfl, hu3⟩; have z0 := hu3.cell (w := wr.drew) a3 (fun x => x); have z1 := hu3.cell (w := wr.drew) b3 (fun x => x); have z2 := hu3.cell (w := wr.drew) x0 (fun x => x); have z3 := hu3.cell (w := wr.drew) x1 (fun x => x); have z4 := hu3.cell (w := wr.drew) x2 (fun x => x); have z5 := hu3.cell (w := wr.drew) x3 (fun x => x); have z6 := hu3.cell (w := wr.drew) x4 (fun x => x); have z7 := hu3.cell (w := wr.drew) y0 (fun x => x); have z8 := hu3.cell (w := wr.drew) y1 (fun x => x); have z9 := hu3.cell (w := wr.drew) y2 (fun x => x); have z10 := hu3.cell (w := wr.drew) y3 (fun x => x); have z11 := hu3.cell (w := wr.drew) y4 (fun x => x); have HU3 := Lib.hid hu3; clear hu3))
            go_wp2_with fail
            go_ret
            have hR : R = false := HQ.out false ⟨(fun h => absurd h (by simp)), fun h => by
              have h1 := congrArg (fun l => l[j]?) h
              simp only [List.getElem?_map, List.getElem?_eq_getElem hjl, List.getElem?_eq_getElem hjl2, Option.map_some, Option.some.injEq, HV.out, HV2.out] at h1
              have := HI.out true ⟨fun _ => h1, fun _ => rfl⟩
              cases this⟩
            subst hR
            exact ⟨rfl, HU.out.trans (HN.out.trans (((Upd.refl (fun _ => False) wr).drew).trans HU3.out))⟩
        · have j1 : ¬ (j : Int) < es.length := by omega
          go_wp2_with fail
          go_ret
          have hR : R = true := HQ.out true ⟨fun _ => map_eq_of HL.out fun i h1 h2 => HQQ.out i h1 h2 (by omega), fun _ => rfl⟩
          subst hR
          exact ⟨rfl, HU.out.trans HN.out⟩
    · have hf : sameB (.mk k n t (es.map El.d) dot) (.mk k' n' t' (es2.map El.d) dot') = false := sameB_false fun h => hc (by
        simp only [Dat.mk.injEq] at h
        exact ⟨h.1, h.2.1, h.2.2.1, h.2.2.2.2, by simpa using congrArg List.length h.2.2.2.1⟩)
      rw [hf]
      go_enter Try.func25, Try.ntmps25
      by_cases q1 : k = k'
      · subst q1
        by_cases q2 : n = n'
        · subst q2
          by_cases q3 : t = t'
          · subst q3
            by_cases q4 : dot = dot'
            · subst q4
              have q5 : ¬ (es.length = es2.length) := fun h => hc ⟨rfl, rfl, rfl, rfl, h⟩
              have q6 : ((es.length : Int) != es2.length) = true := by simp; omega
              clear hc hf q5
              go_wp2_with fail
              go_ret
              exact ⟨rfl, HU.out⟩
            · clear hc hf
              cases dot <;> cases dot' <;> first | exact absurd rfl q4 | (clear q4; go_wp2_with fail; go_ret; exact ⟨rfl, HU.out⟩)
          · have q6 : (t.toList == t'.toList) = false := by simpa using fun h => q3 (toList_inj h)
            clear hc hf q3
            go_wp2_with fail
            go_ret
            exact ⟨rfl, HU.out⟩
        · have q6 : (n != n') = true := by simpa using q2
          clear hc hf q2
          go_wp2_with fail
          go_ret
          exact ⟨rfl, HU.out⟩
      · have q6 : (k != k') = true := by simpa using q1
        clear hc hf q1
        go_wp2_with fail
        go_ret
        exact ⟨rfl, HU.out⟩
def m77 : El := ⟨.mk 0 (-77) ⟨#[]⟩ [] false, .slice none 0 0, []⟩
/-- Data that are lent: a mark stands behind each list. -/
inductive Lent (w : World) (G : Nat → Prop) : Value → List Dat → Prop
  | mk (g c : Nat) (es : List El) (hG : G g) (hlt : g < w.heap.size) (hc : es.length + 1 ≤ c) (hcells : ∀ j u, (elCells (es ++ [m77]))[j]? = some u → w.cell? ⟨g, j, none⟩ = some u) (hn : es.length ≤ 2000000) (hk : ∀ e ∈ es, Lent w G e.kv e.d.kids) : Lent w G (.slice (some ⟨g, 0, none⟩) es.length c) (es.map El.d)
theorem Lent.inv {w : World} {G : Nat → Prop} {v : Value} {l : List Dat} (h : Lent w G v l) : ∃ (g c : Nat) (es : List El), v = .slice (some ⟨g, 0, none⟩) es.length c ∧ l = es.map El.d ∧ G g ∧ g < w.heap.size ∧ es.length + 1 ≤ c ∧ (∀ j u, (elCells (es ++ [m77]))[j]? = some u → w.cell? ⟨g, j, none⟩ = some u) ∧ es.length ≤ 2000000 ∧ ∀ e ∈ es, Lent w G e.kv e.d.kids := by
  cases h with
  | mk g c es hG hlt hc hcells hn hk => exact ⟨g, c, es, rfl, rfl, hG, hlt, hc, hcells, hn, hk⟩
theorem Lent.upd {w w' : World} {F G : Nat → Prop} {v : Value} {l : List Dat} (h : Lent w G v l) (hu : Upd F w w') (hf : ∀ b, b < w.heap.size → G b → ¬ F b) : Lent w' G v l := by
  induction h with
  | mk g c es hG hlt hc hcells hn hk ih => exact .mk g c es hG (Nat.lt_of_lt_of_le hlt hu.size) hc (fun j u hj => hu.cell (hcells j u hj) (hf g hlt hG)) hn ih
theorem Lent.new {w w' : World} {G : Nat → Prop} {v : Value} {l : List Dat} (h : Lent w G v l) (hu : New w w') : Lent w' G v l := h.upd hu fun _ _ _ x => x
theorem Lent.mono {w : World} {G G' : Nat → Prop} {v : Value} {l : List Dat} (h : Lent w G v l) (hg : ∀ b, b < w.heap.size → G b → G' b) : Lent w G' v l := by
  induction h with
  | mk g c es hG hlt hc hcells hn hk ih => exact .mk g c es (hg g hlt hG) hlt hc hcells hn ih
theorem Lent.sees {w : World} {G : Nat → Prop} {v : Value} {l : List Dat} (h : Lent w G v l) : Sees w All v l := by
  induction h with
  | mk g c es hG hlt hc hcells hn hk ih =>
    refine .mk _ es (.inr ⟨g, 0, c, rfl, trivial, hlt, fun j u hj => ?_⟩) hn ih
    rw [Nat.zero_add]
    refine hcells j u ?_
    rw [elCells_append, List.getElem?_append_left (List.getElem?_eq_some_iff.1 hj).1]
    exact hj
theorem Lent.form {w : World} {G : Nat → Prop} {v : Value} {l : List Dat} (h : Lent w G v l) : ∃ A c, v = .slice A l.length c := by
  obtain ⟨g, c, es, rfl, rfl, _⟩ := h.inv
  exact ⟨_, c, by rw [List.length_map]⟩
def LDAT (d : Dat) : Prop := ∀ (kv : Value) (w : World), Sees w All kv d.kids → Calls Try.prog 78 #[datV d kv] w fun e w' => ∃ A c, e = .returned (datV d (.slice A d.kids.length c)) ∧ New w w' ∧ Lent w' (fun b => w.heap.size ≤ b) (.slice A d.kids.length c) d.kids
def LDATA (l : List Dat) : Prop := ∀ (v : Value) (w : World), Sees w All v l → Calls Try.prog 22 #[v] w fun e w' => ∃ A c, e = .returned (.slice A l.length c) ∧ New w w' ∧ Lent w' (fun b => w.heap.size ≤ b) (.slice A l.length c) l
theorem lkeep5 {w : World} {g o : Nat} {v u0 u1 u2 u3 u4 : Value} {B : Nat} (h : w.cell? ⟨g, o, none⟩ = some v) (hne : g ≠ B) : (((((w.setCell ⟨B, 0, none⟩ u0).setCell ⟨B, 1, none⟩ u1).setCell ⟨B, 2, none⟩ u2).setCell ⟨B, 3, none⟩ u3).setCell ⟨B, 4, none⟩ u4).cell? ⟨g, o, none⟩ = some v :=
  ((((((Upd.refl (fun b => b = B) w).set rfl _).set rfl _).set rfl _).set rfl _).set rfl _).cell h hne
set_option maxHeartbeats 4000000 in
set_option maxRecDepth 100000 in
theorem ldat_of (d : Dat) (ih : LDATA d.kids) : LDAT d := by
  intro kv w hs
  obtain ⟨k, n, t, kids, dot⟩ := d
  simp only [Dat.kids] at hs ih ⊢
  have hih := ih kv
  obtain ⟨es, hes, hsx, -⟩ := hs.inv
  obtain ⟨A, c, rfl⟩ := hsx.form
  clear hes hsx ih
  generalize es.length = N at *
  unfold datV
  simp only [Dat.k, Dat.n, Dat.t, Dat.dot]
  have h1 := alloc1 w (.cells #[.int .u8 k, .int .i64 n, .string t, .slice A N c, .bool dot] 58) (.cells #[.int .u8 0, .int .i64 0, .string ⟨#[]⟩, .slice none 0 0, .bool false] 58)
  have h2 := alloc2 w (.cells #[.int .u8 k, .int .i64 n, .string t, .slice A N c, .bool dot] 58) (.cells #[.int .u8 0, .int .i64 0, .string ⟨#[]⟩, .slice none 0 0, .bool false] 58)
  have hup : New w ((w.alloc (.cells #[.int .u8 k, .int .i64 n, .string t, .slice A N c, .bool dot] 58)).alloc (.cells #[.int .u8 0, .int .i64 0, .string ⟨#[]⟩, .slice none 0 0, .bool false] 58)) := ((Upd.refl (fun _ => False) w).alloc _).alloc _
  have hc := fun w' (hn : New ((w.alloc (.cells #[.int .u8 k, .int .i64 n, .string t, .slice A N c, .bool dot] 58)).alloc (.cells #[.int .u8 0, .int .i64 0, .string ⟨#[]⟩, .slice none 0 0, .bool false] 58)) w') => hih w' ((hs.new hup).new hn)
  have HC := Lib.hid hc
  have HU := Lib.hid hup
  have H2 := Lib.hid h2
  obtain ⟨⟨a0, a1, a2, a3, a4⟩, af⟩ := blk5 h1
  have hsz : w.heap.size + 1 < ((w.alloc (.cells #[.int .u8 k, .int .i64 n, .string t, .slice A N c, .bool dot] 58)).alloc (.cells #[.int .u8 0, .int .i64 0, .string ⟨#[]⟩, .slice none 0 0, .bool false] 58)).heap.size := by simp
  clear hs hih hc hup h1 h2 af
  go_enter Try.func78, Try.ntmps78
  go_wp2_with fail
  generalize (w.alloc (.cells #[.int .u8 k, .int .i64 n, .string t, .slice A N c, .bool dot] 58)).alloc (.cells #[.int .u8 0, .int .i64 0, .string ⟨#[]⟩, .slice none 0 0, .bool false] 58) = W at *
  go_region_held3 (fun w' => w'.cell? ⟨w.heap.size, 0, none⟩ = some (.int .u8 k) ∧ w'.cell? ⟨w.heap.size, 1, none⟩ = some (.int .i64 n) ∧ w'.cell? ⟨w.heap.size, 2, none⟩ = some (.string t) ∧ w'.cell? ⟨w.heap.size, 3, none⟩ = some (.slice A N c) ∧ w'.cell? ⟨w.heap.size, 4, none⟩ = some (.bool dot)) (first | (with_reducible exact ⟨a0, a1, a2, a3, a4⟩) | (with_reducible exact ⟨z0, z1, z2, z3, z4⟩) | (with_reducible exact ⟨lkeep5 z0 (by omega), lkeep5 z1 (by omega), lkeep5 z2 (by omega), lkeep5 z3 (by omega), lkeep5 z4 (by omega)⟩) | go_keep)
    (first
      | (go_at_call 22; refine (HC.out _ (Upd.refl (fun _ => False) W).drew).mono ?_; rintro e w3 ⟨A3, c3, rfl, hu3, hl3⟩; replace hu3 := Upd.trans ((Upd.refl (fun _ => False) W).drew) hu3; have z0 := hu3.cell a0 (fun x => x); have z1 := hu3.cell a1 (fun x => x); have z2 := hu3.cell a2 (fun x => x); have z3 := hu3.cell a3 (fun x => x); have z4 := hu3.cell a4 (fun x => x); obtain ⟨⟨p0, p1, p2, p3, p4⟩, pf⟩ := blk5 (hu3.heap H2.out (fun x => x)); have HU3 := Lib.hid hu3; have HL3 := Lib.hid hl3; have hz3 := hu3.size; clear hu3 hl3))
  all_goals
    go_wp2_with fail
    refine bodyPost_ret (results_cell1 rfl _ _ (w.heap.size + 1) 58 #[_, _, _, _, _] _ rfl (by exact bset5 (HU3.out.heap H2.out (fun x => x))) Try.underlying58 rfl size58) rfl ⟨A3, c3, rfl, ?_, ?_⟩
    · exact (HU.out.trans HU3.out).trans' (((((((Upd.refl (fun b => b = w.heap.size + 1) w3).set rfl _).set rfl _).set rfl _).set rfl _).set rfl _)) (fun b hb e => by omega)
    · exact (HL3.out.upd (((((((Upd.refl (fun b => b = w.heap.size + 1) w3).set rfl _).set rfl _).set rfl _).set rfl _).set rfl _)) (fun b _ hb e => by have hb' : W.heap.size ≤ b := hb; omega)).mono fun b _ hb => by have hb' : W.heap.size ≤ b := hb; have := HU.out.size; omega
theorem own_cap {w : World} {base : Nat} {e : TypeId} {size g n c : Nat} {xs : List Value} (h : w.ownsRow base e size (.slice (some ⟨g, 0, none⟩) n c) n xs) : n ≤ c := by
  rcases h.2 with ⟨h0, _⟩ | ⟨g', cap', cur, hv, hb, hg, h1, h2, h3, ht⟩
  · exact absurd h0 (by simp)
  · simp only [Value.slice.injEq, Option.some.injEq, Addr.mk.injEq, and_true, true_and] at hv
    omega
theorem ltake {es es' : List El} {j : Nat} {x : Dat} (h : es'.map El.d = (es.map El.d).take j) (hx : (es.map El.d).take (j + 1) = (es.map El.d).take j ++ [x]) (kv : Value) : List.map El.d (es' ++ [(⟨x, kv, []⟩ : El)]) = (es.map El.d).take (j + 1) := by
  rw [hx, List.map_append, h]; rfl
theorem srow {w : World} {g : Nat} {x : Dat} {A : Option Addr} {N c : Nat} (h : w.heap[g]? = some (.cells #[.int .u8 x.k, .int .i64 x.n, .string x.t, .slice A N c, .bool x.dot] 58 (0, 0))) : SrcRow w 5 (.slice (some ⟨g, 0, none⟩) 1 1) 1 (elCells [⟨x, .slice A N c, []⟩]) :=
  .inr ⟨g, 1, rfl, rfl, World.news_of_block h⟩
theorem one5 (x : Dat) (A : Option Addr) (N c : Nat) : ∀ u ∈ elCells [⟨x, .slice A N c, []⟩], u.oneCell' = true := by
  intro u hu
  simp only [elCells, List.flatMap_cons, List.flatMap_nil, List.append_nil, El.cells, datC, List.mem_cons, List.not_mem_nil, or_false] at hu
  rcases hu with rfl | rfl | rfl | rfl | rfl <;> rfl
set_option maxHeartbeats 8000000 in
set_option maxRecDepth 100000 in
theorem ldata_of (l : List Dat) (ih : ∀ d ∈ l, LDAT d) : LDATA l := by
  intro v w hs
  obtain ⟨es, rfl, hseen, hn, hks⟩ := hs.inv
  obtain ⟨A, c, rfl⟩ := hseen.form
  rw [List.length_map]
  obtain ⟨i0, hi0, hz0, hz1, hz2⟩ := info_parts info58
  have HS := Lib.hid hseen
  have HK := Lib.hid hks
  have HIH := Lib.hid ih
  have hnI : (es.length : Int) ≤ 2000000 := by omega
  have hnJ : (0 : Int) ≤ es.length := by omega
  have hw1 : IntKind.i64.wrap ((es.length : Int) + 1) = (es.length : Int) + 1 := IntWalk.i64_in _ (by omega)
  have M1 := Lib.hid (show i0.bytes * (es.length + 1) ≤ 281474976710656 by rw [hz2]; omega)
  have M2 := Lib.hid (show es.length + 1 ≤ maxLen by unfold maxLen; omega)
  have M3 := Lib.hid (show ((es.length : Int) + 1) = ((es.length + 1 : Nat) : Int) by omega)
  clear hs hseen hks ih
  go_enter Try.func22, Try.ntmps22
  go_upto_region 2 with (at_make; refine wpList_make_own w (by rfl) (.const (.int .i64 0)) (.tmp 8) 23 (by rfl) w.heap.size 58 i0 _ 5 Try.underlying23 hi0 hz0 hz1 .i64 .i64 _ (es.length + 1) (by rfl) (by rfl) M3.out M1.out M2.out (Nat.le_refl _) ?_; intro w1 ho1 hg1; have HO1 := Lib.hid ho1; have HN1 : Hid (New w w1) := Lib.hid ((Upd.refl (fun _ => False) w).grown hg1 (fun q hq _ => by simp at hq)); clear ho1 hg1)
  go_wp2_with fail
  go_loopw [3, 4] (fun xv i wr => ∃ es' : List El, es'.length ≤ es.length ∧ i = .int .i64 es'.length ∧ es'.map El.d = (es.map El.d).take es'.length ∧ New w wr ∧ wr.ownsRow w.heap.size 58 5 xv es'.length (elCells es') ∧ ∀ e ∈ es', Lent wr (fun b => w.heap.size ≤ b ∧ xv.ownBlock ≠ some b) e.kv e.d.kids) (fun _ i _ => es.length - (intOf i).toNat)
  case atStart => exact ⟨[], Nat.zero_le _, rfl, rfl, HN1.out, HO1.out, by intro e he; simp at he⟩
  case round =>
    obtain ⟨es', hle, rfl, htk, hnw, hown, hlent⟩ := hrel
    obtain ⟨A2, c2, rfl⟩ := own_form hown
    have HTK := Lib.hid htk
    have HNW := Lib.hid hnw
    have HOW := Lib.hid hown
    have HLE := Lib.hid hlent
    have hwz := hnw.size
    clear htk hnw hown hlent
    by_cases hjl : es'.length < es.length
    · have j0 : (0 : Int) ≤ es'.length := by omega
      have j1 : (es'.length : Int) < es.length := by omega
      have j3 : IntKind.i64.wrap ((es'.length : Int) + 1) = (es'.length : Int) + 1 := IntWalk.i64_in _ (by omega)
      obtain ⟨g, o, cc, hA, hG, hlt, x0, x1, x2, x3, x4⟩ := (HS.out.new HNW.out).at es'.length hjl
      simp only [Value.slice.injEq] at hA
      obtain ⟨rfl, -, -⟩ := hA
      have hmem := List.getElem_mem hjl
      have hkk := (HK.out _ hmem).new HNW.out
      obtain ⟨es3, hes3, hseen3, -⟩ := hkk.inv
      obtain ⟨A4, c4, hkv⟩ := hseen3.form
      have hmem2 : es[es'.length].d ∈ es.map El.d := List.mem_map.2 ⟨_, hmem, rfl⟩
      have hcall := fun w' (hh : New wr w') => HIH.out es[es'.length].d hmem2 es[es'.length].kv w' (hkk.new hh)
      have hstep : (es.map El.d).take (es'.length + 1) = (es.map El.d).take es'.length ++ [es[es'.length].d] := take_succ_map es es'.length hjl
      have HST := Lib.hid hstep
      have HC := Lib.hid hcall
      generalize hV : es[es'.length] = X at *
      obtain ⟨xd, xkv, xbs⟩ := X
      simp only at *
      subst hkv
      clear hkk hes3 hseen3 hcall hstep hmem hmem2 hV
      have N1 := Lib.hid (show es'.length + 1 ≤ maxLen by unfold maxLen; omega)
      have N2 := Lib.hid (show (es'.length + 1) * 64 ≤ 140737488355328 by omega)
      have hone' : ∀ u ∈ elCells es', u.oneCell' = true := elCells_one es' (fun e he => by obtain ⟨A9, c9, h⟩ := (HLE.out e he).form; exact ⟨A9, _, c9, h⟩)
      clear hone'
      unfold datV at HC
      go_wp2_with fail
      refine (HC.out _ (Upd.refl _ _)).mono ?_
      rintro e w5 ⟨A5, c5, rfl, hu5, hl5⟩
      have hz5 := hu5.size
      have HU5 := Lib.hid hu5
      have HL5 := Lib.hid hl5
      clear hu5 hl5
      go_upto_region 4 with (at_builtin; refine wpList_append_row (w5.alloc (.cells #[.int .u8 xd.k, .int .i64 xd.n, .string xd.t, .slice A5 xd.kids.length c5, .bool xd.dot] 58)) (by rfl) (.tmp 16) (.tmp 22) 23 (by rfl) w.heap.size 58 i0 _ 5 64 Try.underlying23 hi0 hz0 hz1 hz2 rfl (by decide) (.slice A2 es'.length c2) es'.length (elCells es') (by rfl) ((ownsRow_frame HOW.out (fun q hq => HU5.out.block q (own_lt HOW.out q hq).2 (fun x => x))).alloc (.cells #[.int .u8 xd.k, .int .i64 xd.n, .string xd.t, .slice A5 xd.kids.length c5, .bool xd.dot] 58)) (.slice (some ⟨w5.heap.size, 0, none⟩) 1 1) 1 (elCells [⟨xd, .slice A5 xd.kids.length c5, []⟩]) (by rfl) (srow (heap_alloc_new w5 (.cells #[.int .u8 xd.k, .int .i64 xd.n, .string xd.t, .slice A5 xd.kids.length c5, .bool xd.dot] 58))) (one5 xd A5 xd.kids.length c5) N1.out N2.out (by simp; omega) ?_; intro v1 w6 ho6 hg6 hat6; obtain ⟨A6, c6, rfl⟩ := own_form ho6; have HO6 := Lib.hid ho6; have HG6 := Lib.hid hg6; have HA6 := Lib.hid hat6; clear ho6 hg6 hat6)
      go_wp2_with fail
      go_roundw
      case measure => simp [intOf]; omega
      case rel =>
        have hF : Upd (fun b => (Value.slice A2 es'.length c2).ownBlock = some b) (w5.alloc (.cells #[.int .u8 xd.k, .int .i64 xd.n, .string xd.t, .slice A5 xd.kids.length c5, .bool xd.dot] 58)) w6 := (Upd.refl _ _).grown HG6.out (fun b hb _ => hb)
        have hnew : New w w6 := ((HNW.out.trans HU5.out).alloc _).trans' hF (fun b hb e => by have := (own_lt HOW.out b e).1; omega)
        refine ⟨es' ++ [⟨xd, .slice A5 xd.kids.length c5, []⟩], by simp; omega, by simp, ?_, hnew, ?_, ?_⟩
        · have := ltake HTK.out HST.out (.slice A5 xd.kids.length c5)
          rw [List.length_append]; exact this
        · rw [List.length_append, elCells_append]; exact HO6.out
        · intro e he
          have hsz1 : (w5.alloc (.cells #[.int .u8 xd.k, .int .i64 xd.n, .string xd.t, .slice A5 xd.kids.length c5, .bool xd.dot] 58)).heap.size = w5.heap.size + 1 := by simp
          rcases List.mem_append.1 he with he | he
          · have h0 := (HLE.out e he).mono (G' := fun b => (w.heap.size ≤ b ∧ (Value.slice A2 es'.length c2).ownBlock ≠ some b) ∧ b < wr.heap.size) (fun b hb h => ⟨h, hb⟩)
            have h1 := (h0.new (HU5.out.alloc (.cells #[.int .u8 xd.k, .int .i64 xd.n, .string xd.t, .slice A5 xd.kids.length c5, .bool xd.dot] 58))).upd hF (fun b _ hb e => hb.1.2 e)
            refine h1.mono fun b hb h2 => ⟨h2.1.1, fun e2 => ?_⟩
            rcases HA6.out with e3 | e3
            · rw [e3] at e2; exact h2.1.2 e2
            · rw [e3] at e2
              simp only [Option.some.injEq] at e2
              have := h2.2
              omega
          · obtain rfl := List.mem_singleton.1 he
            have h0 := HL5.out.mono (G' := fun b => wr.heap.size ≤ b ∧ b < w5.heap.size) (fun b hb h => ⟨h, hb⟩)
            have h1 := (h0.new ((Upd.refl (fun _ => False) w5).alloc (.cells #[.int .u8 xd.k, .int .i64 xd.n, .string xd.t, .slice A5 xd.kids.length c5, .bool xd.dot] 58))).upd hF (fun b _ hb e => by
              have hb' : wr.heap.size ≤ b := hb.1
              have := (own_lt HOW.out b e).2
              omega)
            refine h1.mono fun b hb h2 => ?_
            have h2' : wr.heap.size ≤ b := h2.1
            have h2'' : b < w5.heap.size := h2.2
            refine ⟨by omega, fun e2 => ?_⟩
            rcases HA6.out with e3 | e3
            · rw [e3] at e2; have := (own_lt HOW.out b e2).2; omega
            · rw [e3] at e2
              simp only [Option.some.injEq] at e2
              omega
    · have j1 : ¬ (es'.length : Int) < es.length := by omega
      have jl : es'.length = es.length := by omega
      have N1 := Lib.hid (show es'.length + 1 ≤ maxLen by unfold maxLen; omega)
      have N2 := Lib.hid (show (es'.length + 1) * 64 ≤ 140737488355328 by omega)
      have HOW2 : Hid (wr.ownsRow w.heap.size 58 5 (.slice A2 es'.length c2) es'.length (elCells es')) := Lib.hid (jl ▸ HOW.out)
      rw [jl] at N1 N2
      have N3 := Lib.hid (show es'.length + 1 ≤ maxLen by unfold maxLen; omega)
      have N4 := Lib.hid (show (es'.length + 1) * 64 ≤ 140737488355328 by omega)
      have JL := Lib.hid jl
      clear jl
      go_upto_region 7 with (at_builtin; go_loud (refine wpList_append_row (wr.alloc (.cells #[.int .u8 0, .int .i64 (-77), .string ⟨#[]⟩, .slice none 0 0, .bool false] 58)) (by rfl) (.tmp 24) (.tmp 26) 23 (by rfl) w.heap.size 58 i0 _ 5 64 Try.underlying23 hi0 hz0 hz1 hz2 rfl (by decide) (.slice A2 es'.length c2) es'.length (elCells es') (by rfl) (HOW.out.alloc (.cells #[.int .u8 0, .int .i64 (-77), .string ⟨#[]⟩, .slice none 0 0, .bool false] 58)) (.slice (some ⟨wr.heap.size, 0, none⟩) 1 1) 1 (elCells [m77]) (by rfl) (srow (x := m77.d) (heap_alloc_new wr (.cells #[.int .u8 0, .int .i64 (-77), .string ⟨#[]⟩, .slice none 0 0, .bool false] 58))) (one5 m77.d none 0 0) N3.out N4.out (by simp; omega) ?_; intro v1 w6 ho6 hg6 hat6; obtain ⟨g6, c6, rfl⟩ := own_some ho6 (by omega); have HO6 := Lib.hid ho6; have HG6 := Lib.hid hg6; have HA6 := Lib.hid hat6; clear ho6 hg6 hat6))
      have jl := JL.out
      have c6le : es'.length + 1 ≤ c6 := own_cap HO6.out
      have c61 : (es.length : Int) ≤ c6 := by omega
      have c62 : es.length ≤ c6 := by omega
      clear N1 N2 N3 N4 HOW2 jl
      have hF : Upd (fun b => (Value.slice A2 es'.length c2).ownBlock = some b) (wr.alloc (.cells #[.int .u8 0, .int .i64 (-77), .string ⟨#[]⟩, .slice none 0 0, .bool false] 58)) w6 := (Upd.refl _ _).grown HG6.out (fun b hb _ => hb)
      have hnew : Hid (New w w6) := Lib.hid ((HNW.out.alloc _).trans' hF (fun b hb e => by have := (own_lt HOW.out b e).1; omega))
      have hfin : Hid (Lent w6 (fun b => w.heap.size ≤ b) (.slice (some ⟨g6, 0, none⟩) es.length c6) (es.map El.d)) := by
        refine Lib.hid ?_
        have h1 : es'.map El.d = es.map El.d := by rw [HTK.out, JL.out]; exact List.take_of_length_le (by simp)
        rw [← h1, ← JL.out]
        refine .mk g6 c6 es' ?_ ?_ c6le (fun j u hj => ?_) (by have := JL.out; omega) (fun e he => ?_)
        · exact (own_lt HO6.out g6 rfl).1
        · exact (own_lt HO6.out g6 rfl).2
        · rw [elCells_append] at hj
          have h3 := own_cells HO6.out j u hj
          rw [addr_add] at h3
          simpa using h3
        · have h2 := ((HLE.out e he).new ((Upd.refl (fun _ => False) wr).alloc (.cells #[.int .u8 0, .int .i64 (-77), .string ⟨#[]⟩, .slice none 0 0, .bool false] 58))).upd hF (fun b _ hb e => hb.2 e)
          exact h2.mono fun b _ hb => hb.1
      clear c6le hF
      go_wp2_with fail
      go_ret
      exact ⟨_, c6, rfl, hnew.out, hfin.out⟩
theorem ldat_all (d : Dat) : LDAT d := by
  induction d using Dat.ind with
  | h k n t kids dot ih => exact ldat_of _ (ldata_of _ ih)
theorem lentdata_calls (l : List Dat) : LDATA l := ldata_of l fun d _ => ldat_all d
end Go.Proofs.Ytnnjhafjcdjobaa
