/- CycleEnds: what the collector sees. -/
import Derived.Test.YtgfabhioliljmaaCeB
namespace Go.Proofs.Ytgfabhioliljmaa
open Go.RowKit
set_option linter.unusedVariables false
set_option linter.unusedSimpArgs false

def arL : List Bool → List Lf → List Bool → Nat → Int × Bool × Bool
  | s :: sc, l :: ls, t :: td, i => if s = true then arL sc ls td (i + 1) else ((i : Int) + 1, l.still, t)
  | _, _, _, _ => (0, false, false)
def arX (x : Wd) (k : Nat) : Int × Bool × Bool := arL (x.sc.drop k) (x.l.drop k) (x.td.drop k) k
def aroW (x : Wd) (n g : Int) : Aro := ⟨n, g, (arX x 0).1, (arX x 0).2.1, (arX x 0).2.2, decide (0 < x.grey)⟩
theorem own_form {w : World} {base : Nat} {e : TypeId} {size : Nat} {v : Value} {n : Nat} {xs : List Value} (h : w.ownsRow base e size v n xs) : ∃ A c, v = .slice A n c := by
  rcases h.2 with ⟨rfl, rfl⟩ | ⟨g, cap, cur, rfl, _⟩
  · exact ⟨_, _, rfl⟩
  · exact ⟨_, _, rfl⟩
theorem arX_end (x : Wd) : arX x x.l.length = (0, false, false) := by
  unfold arX
  rw [List.drop_length]
  cases x.sc.drop x.l.length <;> rfl
theorem arX_step (x : Wd) (k : Nat) (h1 : k < x.l.length) (h2 : k < x.sc.length) (h3 : k < x.td.length) : arX x k = if x.sc[k] = true then arX x (k + 1) else ((k : Int) + 1, x.l[k].still, x.td[k]) := by
  unfold arX
  rw [List.drop_eq_getElem_cons h1, List.drop_eq_getElem_cons h2, List.drop_eq_getElem_cons h3, arL]
set_option maxHeartbeats 4000000 in
theorem around_calls {C : Nat → Prop} {B : Nat} {w : World} {x : Wd} {vl vs vt vn : Value} (h : WAt C B w x vl vs vt vn) (ho : WOk x) (n g : Int) :
    Calls Try.prog 16 #[.pointer (some ⟨B, 0, none⟩), .int .i64 n, .int .i64 g] w fun e w' => e = .returned (.agg #[.int .i64 n, .int .i64 g, .int .i64 (aroW x n g).thread, .bool (aroW x n g).still, .bool (aroW x n g).told, .bool (aroW x n g).grey]) ∧ New w w' := by
  have hlt := Array.getElem?_eq_some_iff.1 h.box
  obtain ⟨hBlt, -⟩ := hlt
  have hzb := (Upd.refl (fun _ => False) w).alloc (.cells #[.int .i64 0, .int .i64 0, .int .i64 0, .bool false, .bool false, .bool false] 29)
  have n8 := ho.n8
  obtain ⟨b0, b1, b2, b3, b4, b5, f0, f1, f2, f3, f4, f5⟩ := blk6f h.box
  obtain ⟨Al, cl, hvl⟩ := own_form h.rl
  have e0 : (0 : Int) ≤ x.l.length := by omega
  have e1 : (x.l.length : Int) ≤ 8 := by omega
  have e2 : IntKind.i64.wrap ((x.l.length : Int) - 1) = (x.l.length : Int) - 1 := IntWalk.i64_in _ (by omega)
  have HW := Lib.hid h
  have HO := Lib.hid ho
  subst hvl
  clear h ho n8 hzb
  go_enter Try.func16, Try.ntmps16
  go_wp2_with fail
  generalize hGR : decide (0 < x.grey) = GR
  have HGR := Lib.hid hGR
  have hz0 := alloc1 w (.cells #[.int .i64 0, .int .i64 0, .int .i64 0, .bool false, .bool false, .bool false] 29) (.cells #[.int .i64 n, .int .i64 g, .int .i64 0, .bool false, .bool false, .bool GR] 29)
  have hz1 := alloc2 w (.cells #[.int .i64 0, .int .i64 0, .int .i64 0, .bool false, .bool false, .bool false] 29) (.cells #[.int .i64 n, .int .i64 g, .int .i64 0, .bool false, .bool false, .bool GR] 29)
  have hz2 := ((Upd.refl (fun _ => False) w).alloc (.cells #[.int .i64 0, .int .i64 0, .int .i64 0, .bool false, .bool false, .bool false] 29)).alloc (.cells #[.int .i64 n, .int .i64 g, .int .i64 0, .bool false, .bool false, .bool GR] 29)
  have HZ0 := Lib.hid hz0
  have HZ1 := Lib.hid hz1
  have HZ2 := Lib.hid hz2
  clear hGR hz0 hz1 hz2 b0 b1 b2 b3 b4 b5 f0 f1 f2 f3 f4 f5
  go_loopw [8] (fun i wr => New w wr ∧ ∃ k : Nat, k ≤ x.l.length ∧ i = .int .i64 ((k : Int) - 1) ∧ wr.heap[w.heap.size]? = some (.cells #[.int .i64 0, .int .i64 0, .int .i64 0, .bool false, .bool false, .bool false] 29 (0, 0)) ∧ wr.heap[w.heap.size + 1]? = some (.cells #[.int .i64 n, .int .i64 g, .int .i64 (arX x k).1, .bool (arX x k).2.1, .bool (arX x k).2.2, .bool GR] 29 (0, 0))) (fun i _ => (intOf i + 1).toNat)
  case atStart => exact ⟨HZ2.out, x.l.length, Nat.le_refl _, rfl, HZ0.out, by rw [arX_end]; exact HZ1.out⟩
  case round =>
    obtain ⟨hn, k, hk, rfl, hb6, hb7⟩ := hrel
    have HN := Lib.hid hn
    have HW2 := Lib.hid (HW.out.new hn)
    have HB6 := Lib.hid hb6
    have HB7 := Lib.hid hb7
    obtain ⟨b0, b1, b2, b3, b4, b5, f0, f1, f2, f3, f4, f5⟩ := blk6f HW2.out.box
    obtain ⟨c0, c1, c2, c3, c4, c5, d0, d1, d2, d3, d4, d5⟩ := blk6f hb7
    obtain ⟨t0, t1, t2, t3, t4, t5, p0, p1, p2, p3, p4, p5⟩ := blk6f hb6
    have hsz := hn.size
    clear hn hb6 hb7
    cases k with
    | zero =>
      have j1 : ¬ (0 : Int) ≤ ((0 : Nat) : Int) - 1 := by simp
      go_wp2_with fail
      refine bodyPost_ret (results_cell_row rfl _ _ w.heap.size 29 #[.int .i64 n, .int .i64 g, .int .i64 (arX x 0).1, .bool (arX x 0).2.1, .bool (arX x 0).2.2, .bool GR] (0, 0) _ rfl (by exact bset6 HB6.out) Try.underlying29 rfl size29) rfl ⟨?_, ?_⟩
      · rw [← HGR.out]; rfl
      · exact (((((HN.out.new (by omega) _).new (by omega) _).new (by omega) _).new (by omega) _).new (by omega) _).new (by omega) _
    | succ j =>
      have hs := HO.out.ns
      have ht := HO.out.nt
      obtain ⟨gs, cs, rfl⟩ := own_some HW2.out.rsc (by omega)
      obtain ⟨gt, ct, rfl⟩ := own_some HW2.out.rtd (by omega)
      obtain ⟨gl, cl2, hvl⟩ := own_some HW2.out.rl (by omega)
      simp only [Value.slice.injEq] at hvl
      obtain ⟨rfl, -, -⟩ := hvl
      have k1 : j < x.l.length := by omega
      have k2 : j < x.sc.length := by omega
      have k3 : j < x.td.length := by omega
      obtain ⟨s0, s1⟩ := own_at HW2.out.rl (j * 4) _ ((lifeCells_get x.l j k1 0 (by omega)).trans rfl)
      obtain ⟨s2, s3⟩ := own_at HW2.out.rsc j _ (boolCells_get x.sc j k2)
      obtain ⟨s4, s5⟩ := own_at HW2.out.rtd j _ (boolCells_get x.td j k3)
      have j0 : (((j + 1 : Nat) : Int) - 1) = j := by omega
      rw [j0]
      have i0 : (0 : Int) ≤ j := by omega
      have i1 : (j : Int) < x.l.length := by omega
      have i2 : (j : Int) < x.sc.length := by omega
      have i3 : (j : Int) < x.td.length := by omega
      have m1 : IntKind.i64.wrap ((j : Int) + 1) = (j : Int) + 1 := IntWalk.i64_in _ (by omega)
      have m2 : IntKind.i64.wrap ((j : Int) - 1) = (j : Int) - 1 := IntWalk.i64_in _ (by omega)
      have hst := arX_step x j k1 k2 k3
      have HST := Lib.hid hst
      have gtl := (ownrow_lt HW.out.rtd gt rfl).2
      have gll := (ownrow_lt HW.out.rl gl rfl).2
      have gtn : ¬ w.heap.size + 1 = gt := by omega
      have gtn2 : ¬ gt = w.heap.size + 1 := by omega
      have gln : ¬ w.heap.size + 1 = gl := by omega
      have gln2 : ¬ gl = w.heap.size + 1 := by omega
      have gbn : ¬ w.heap.size + 1 = B := by omega
      have gbn2 : ¬ B = w.heap.size + 1 := by omega
      clear hs ht hst j0
      generalize hV : x.sc[j] = V at *
      generalize hV2 : x.td[j] = T at *
      generalize hV3 : x.l[j] = L at *
      clear hV hV2 hV3
      cases V with
      | true =>
        go_wp2_with fail
        go_roundw
        case measure => simp [intOf]
        case rel => exact ⟨HN.out, j, by omega, rfl, HB6.out, by rw [HST.out, if_pos rfl]; exact HB7.out⟩
      | false =>
        go_wp2_with fail
        go_roundw
        case measure => simp [intOf]
        case rel =>
          refine ⟨((HN.out.new (by omega) _).new (by omega) _).new (by omega) _, j, by omega, rfl, bother (bother (bother HB6.out (by omega) _) (by omega) _) (by omega) _, ?_⟩
          rw [HST.out, if_neg (by decide)]
          exact bset (bset (bset HB7.out 2 _) 3 _) 4 _
end Go.Proofs.Ytgfabhioliljmaa
