/- ownTokens: the first loop: every row gets its marks. -/
import Derived.Test.YtecoahdeafobkaaOwA
import Derived.Test.YtecoahdeafobkaaLxX
import Derived.Deep.LoopGhost
import Derived.Outline
namespace Go.Proofs.Ytecoahdeafobkaa
open Go.RowKit
set_option linter.unusedVariables false
set_option linter.unusedSimpArgs false
attribute [local go_sem high] eqTok

def marks (f : Nat → List Value) (n : Nat) : List Value := (List.range n).flatMap f
theorem marks_zero (f : Nat → List Value) : marks f 0 = [] := rfl
theorem marks_succ (f : Nat → List Value) (n : Nat) : marks f (n + 1) = marks f n ++ f n := by simp [marks, List.range_succ]
theorem marks_length (f : Nat → List Value) (K : Nat) (hf : ∀ k, (f k).length = K) : ∀ n, (marks f n).length = n * K := by
  intro n
  induction n with
  | zero => simp [marks]
  | succ n ih => rw [marks_succ, List.length_append, ih, hf, Nat.add_mul, Nat.one_mul]
theorem marks_at (f : Nat → List Value) (K : Nat) (hf : ∀ k, (f k).length = K) (n k r : Nat) (hk : k < n) (hr : r < K) : (marks f n)[k * K + r]? = (f k)[r]? := by
  induction n with
  | zero => omega
  | succ n ih =>
    rw [marks_succ]
    have hl := marks_length f K hf n
    by_cases hkn : k < n
    · have : k * K + r < n * K := by
        have : (k + 1) * K ≤ n * K := Nat.mul_le_mul_right _ hkn
        rw [Nat.add_mul, Nat.one_mul] at this
        omega
      rw [List.getElem?_append_left (by omega)]
      exact ih hkn
    · have : k = n := by omega
      subst this
      rw [List.getElem?_append_right (by omega), hl]
      congr 1
      omega
def tkA (i k : Nat) : List Value := [.int .u8 0, .string ⟨#[]⟩, .int .i64 k, .int .i64 i]
def tkB (i k : Nat) : List Value := [.int .u8 0, .string ⟨#[]⟩, .int .i64 k, .int .i64 (-1 - (i : Int))]
def mkA (ns : Nat → Nat) (i : Nat) : List Value := marks (tkA i) (ns i)
def mkB (i k : Nat) : List Value := marks (tkB i) k
theorem set4_take (xs : List Value) (k : Nat) (a b c d : Value) (h : k * 4 + 4 ≤ xs.length) : ((((xs.set (k * 4) a).set (k * 4 + 1) b).set (k * 4 + 2) c).set (k * 4 + 3) d).take ((k + 1) * 4) = xs.take (k * 4) ++ [a, b, c, d] := by
  apply List.ext_getElem?
  intro j
  rw [List.getElem?_take]
  by_cases hj : j < (k + 1) * 4
  · rw [if_pos hj]
    simp only [List.getElem?_set, List.length_set]
    by_cases h0 : j < k * 4
    · rw [if_neg (by omega), if_neg (by omega), if_neg (by omega), if_neg (by omega), List.getElem?_append_left (by simp; omega), List.getElem?_take, if_pos h0]
    · rw [List.getElem?_append_right (by simp; omega)]
      have hl : (xs.take (k * 4)).length = k * 4 := by simp; omega
      rw [hl]
      rcases (by omega : j = k * 4 ∨ j = k * 4 + 1 ∨ j = k * 4 + 2 ∨ j = k * 4 + 3) with rfl | rfl | rfl | rfl
      · rw [if_neg (by omega), if_neg (by omega), if_neg (by omega), if_pos rfl, if_pos (by omega)]; simp
      · rw [if_neg (by omega), if_neg (by omega), if_pos rfl, if_pos (by omega)]; simp
      · rw [if_neg (by omega), if_pos rfl, if_pos (by omega)]; simp
      · rw [if_pos rfl, if_pos (by omega)]; simp
  · rw [if_neg hj]
    symm
    apply List.getElem?_eq_none
    simp
    omega
/-- In the first loop. -/
def One (B0 G m : Nat) (vs : Nat → Value) (ns : Nat → Nat) (w : World) (i k : Nat) (wr : World) : Prop :=
  Bk.UpdC B0 w wr ∧ ∃ xs, Bk.Rows wr B0 34 4 G m vs ns xs ∧ (∀ j, j < i → j < m → xs j = mkA ns j) ∧ (i < m → (xs i).take (k * 4) = marks (tkA i) k)
theorem One.store {B0 G m : Nat} {vs : Nat → Value} {ns : Nat → Nat} {w wr : World} {i k g c : Nat} (h : One B0 G m vs ns w i k wr) (hi : i < m) (hk : k < ns i) (hv : vs i = .slice (some ⟨g, 0, none⟩) (ns i) c) :
    One B0 G m vs ns w i (k + 1) ((((wr.setCell ⟨g, k * 4, none⟩ (.int .u8 0)).setCell ⟨g, k * 4 + 1, none⟩ (.string ⟨#[]⟩)).setCell ⟨g, k * 4 + 2, none⟩ (.int .i64 k)).setCell ⟨g, k * 4 + 3, none⟩ (.int .i64 i)) := by
  obtain ⟨hu, xs, hR, hA, ht⟩ := h
  obtain ⟨r1, u1⟩ := hR.put i hi hv (k * 4) (.int .u8 0)
  obtain ⟨r2, u2⟩ := r1.put i hi hv (k * 4 + 1) (.string ⟨#[]⟩)
  obtain ⟨r3, u3⟩ := r2.put i hi hv (k * 4 + 2) (.int .i64 k)
  obtain ⟨r4, u4⟩ := r3.put i hi hv (k * 4 + 3) (.int .i64 i)
  refine ⟨(((hu.trans u1).trans u2).trans u3).trans u4, _, r4, fun j hj hjm => ?_, fun _ => ?_⟩
  · have hne : j ≠ i := by omega
    simp only [Bk.setX, if_neg hne]
    exact hA j hj hjm
  · simp only [Bk.setX, if_true]
    have hl := (hR.own i hi).1
    have : (k + 1) * 4 ≤ ns i * 4 := Nat.mul_le_mul_right _ hk
    rw [set4_take _ _ _ _ _ _ (by omega), ht hi, marks_succ]
    rfl
theorem One.next {B0 G m : Nat} {vs : Nat → Value} {ns : Nat → Nat} {w wr : World} {i : Nat} (h : One B0 G m vs ns w i (ns i) wr) (hi : i < m) : One B0 G m vs ns w (i + 1) 0 wr := by
  obtain ⟨hu, xs, hR, hA, ht⟩ := h
  refine ⟨hu, xs, hR, fun j hj hjm => ?_, fun _ => by simp [marks]⟩
  by_cases hji : j = i
  · subst hji
    have := ht hi
    rw [List.take_of_length_le (by rw [(hR.own j hi).1]; exact Nat.le_refl _)] at this
    exact this
  · exact hA j (by omega) hjm
theorem One.done {B0 G m : Nat} {vs : Nat → Value} {ns : Nat → Nat} {w wr : World} {k : Nat} (h : One B0 G m vs ns w m k wr) : Bk.Rows wr B0 34 4 G m vs ns (mkA ns) := by
  obtain ⟨hu, xs, hR, hA, ht⟩ := h
  exact ⟨hR.row, fun j hj => by rw [← hA j hj hj]; exact hR.own j hj, hR.apart, hR.noG⟩
theorem One.cell {B0 G m : Nat} {vs : Nat → Value} {ns : Nat → Nat} {w wr : World} {i k : Nat} (h : One B0 G m vs ns w i k wr) (hi : i < m) : ∃ Ad c, vs i = .slice Ad (ns i) c ∧ wr.cell? ⟨G, i, none⟩ = some (.slice Ad (ns i) c) := by
  obtain ⟨hu, xs, hR, hA, ht⟩ := h
  obtain ⟨Ad, c, hv⟩ := Bk.own_form (hR.own i hi)
  exact ⟨Ad, c, hv, by rw [← hv]; exact hR.row i hi⟩
theorem One.olds {B0 G m : Nat} {vs : Nat → Value} {ns : Nat → Nat} {w wr : World} {i k g c : Nat} (h : One B0 G m vs ns w i k wr) (hi : i < m) (hk : k < ns i) (hv : vs i = .slice (some ⟨g, 0, none⟩) (ns i) c) (r : Nat) (hr : r < 4) : ∃ u, wr.cell? ⟨g, k * 4 + r, none⟩ = some u ∧ wr.frozen? ⟨g, k * 4 + r, none⟩ = false := by
  obtain ⟨hu, xs, hR, hA, ht⟩ := h
  have ho := hR.own i hi
  rw [hv] at ho
  have hl := ho.1
  have : (k + 1) * 4 ≤ ns i * 4 := Nat.mul_le_mul_right _ hk
  have hlt : k * 4 + r < (xs i).length := by omega
  exact ⟨_, Bk.own_at ho (k * 4 + r) _ (List.getElem?_eq_getElem hlt)⟩
theorem infoE : (Try.prog.info? 34).map (fun i => (i.zero, i.size, i.bytes)) = some (some (.agg #[.int .u8 0, .string ⟨#[]⟩, .int .i64 0, .int .i64 0]), 4, 40) := by kernel_rfl
theorem infoS : (Try.prog.info? 26).map (fun i => (i.zero, i.size, i.bytes)) = some (some (.slice none 0 0), 1, 24) := by kernel_rfl
theorem tkB_one (i k : Nat) : ∀ u ∈ tkB i k, u.oneCell' = true := by
  intro u hu
  simp only [tkB, List.mem_cons, List.not_mem_nil, or_false] at hu
  rcases hu with rfl | rfl | rfl | rfl <;> rfl
/-- In the second loop. -/
def Two (B0 G m : Nat) (vs : Nat → Value) (ns : Nat → Nat) (w : World) (i : Nat) (long : Value) (ws : Nat → Value) (wr : World) : Prop :=
  Bk.UpdC B0 w wr ∧ Bk.Head wr B0 34 26 4 G m vs ns (mkA ns) mkB i long ws
def Thr (B0 G m : Nat) (vs : Nat → Value) (ns : Nat → Nat) (w : World) (i k : Nat) (x long : Value) (ws : Nat → Value) (wr : World) : Prop :=
  Bk.UpdC B0 w wr ∧ Bk.Grow wr B0 34 26 4 G m vs ns (mkA ns) mkB i long ws ∧ Bk.At wr B0 34 4 G m vs ns (mkA ns) mkB i k x long ws
section
variable {B0 G m : Nat} {vs : Nat → Value} {ns : Nat → Nat} {w wr w' : World} {i k : Nat} {x x' long long' : Value} {ws : Nat → Value}
theorem Thr.grow {o : Obj} (h : Thr B0 G m vs ns w i k x long ws wr) (hi : i < m) (ho : w'.ownsRow B0 34 4 x' (ns i + k + 1) ((mkA ns i ++ mkB i k) ++ tkB i k)) (hg : Bk.Grew (wr.alloc o) w' x x') : Thr B0 G m vs ns w i (k + 1) x' long ws w' := by
  have hu := (Upd.refl (fun _ => False) wr).alloc o
  obtain ⟨a, b, c⟩ := Bk.At.step (h.2.1.new hu) (h.2.2.new hu) hi ho (marks_succ (tkB i) k) hg
  exact ⟨(h.1.alloc o).trans c, a, b⟩
theorem Thr.done {o : Obj} (h : Thr B0 G m vs ns w i 16 x long ws wr) (hi : i < m) (ho : w'.ownsRow B0 26 1 long' (i + 1) ((List.range i).map ws ++ [x])) (hg : Bk.Grew (wr.alloc o) w' long long') : Two B0 G m vs ns w (i + 1) long' (Bk.setW ws i x) w' := by
  have hu := (Upd.refl (fun _ => False) wr).alloc o
  obtain ⟨a, b⟩ := Bk.Head.next (h.2.1.new hu) (h.2.2.new hu) hi ho hg
  exact ⟨(h.1.alloc o).trans b, a⟩
end
set_option maxRecDepth 100000 in
set_option maxHeartbeats 8000000 in
theorem ownTokens_calls {B0 G m cap : Nat} {vs : Nat → Value} {ns : Nat → Nat} {xs : Nat → List Value} {w : World} (h : Bk.Rows w B0 34 4 G m vs ns xs) (hG : B0 ≤ G ∧ G < w.heap.size) (hm : m ≤ 1000000) (hns : ∀ j, j < m → ns j ≤ 1048577) :
    Calls Try.prog 37 #[.slice (some ⟨G, 0, none⟩) m cap] w fun e w' => e = .returned (.bool true) ∧ Bk.UpdC B0 w w' := by
  have h1 : One B0 G m vs ns w 0 0 w := ⟨Bk.UpdC.refl _ _, xs, h, fun j hj => absurd hj (by omega), fun _ => by simp [marks]⟩
  have H1 := Lib.hid h1
  have HG := Lib.hid hG
  have HNS := Lib.hid hns
  clear h h1 hns hG
  go_enter Try.func37, Try.ntmps37
  go_wp2_with fail
  go_loopw [3] (fun ii wr => ∃ i : Nat, i ≤ m ∧ ii = .int .i64 i ∧ One B0 G m vs ns w i 0 wr) (fun ii _ => m - (intOf ii).toNat)
  case atStart => exact ⟨0, Nat.zero_le _, rfl, H1.out⟩
  case round =>
    obtain ⟨i, him, rfl, hone⟩ := hrel
    by_cases hi : i < m
    · obtain ⟨Ad, c, hv, y0⟩ := hone.cell hi
      have i0 : (i : Int) < m := by omega
      have i1 : (0 : Int) ≤ i := by omega
      have i2 : (m : Int) ≤ 1000000 := by omega
      have hni := HNS.out i hi
      have e1 : IntKind.i64.wrap ((i : Int) + 1) = (i : Int) + 1 := IntWalk.i64_in _ (by omega)
      have HONE := Lib.hid hone
      have HV := Lib.hid hv
      clear hone hv y0
      go_wp2_with fail
      generalize wr = wo at *
      go_loopw [4] (fun kk wr => ∃ k : Nat, k ≤ ns i ∧ kk = .int .i64 k ∧ One B0 G m vs ns w i k wr) (fun kk _ => ns i - (intOf kk).toNat)
      case atStart => exact ⟨0, Nat.zero_le _, rfl, HONE.out⟩
      case round =>
        obtain ⟨k, hkn, rfl, hone⟩ := hrel
        obtain ⟨Ad2, c2, hv2, y0⟩ := hone.cell hi
        have k1 : (0 : Int) ≤ k := by omega
        have k2 : (ns i : Int) ≤ 1048577 := by omega
        have e2 : IntKind.i64.wrap ((k : Int) + 1) = (k : Int) + 1 := IntWalk.i64_in _ (by omega)
        by_cases hk : k < ns i
        · have k0 : (k : Int) < ns i := by omega
          obtain ⟨g, cc, hv3⟩ : ∃ g cc, vs i = .slice (some ⟨g, 0, none⟩) (ns i) cc := by
            obtain ⟨hu, xs, hR, _⟩ := hone
            exact Bk.own_some (hR.own i hi) (by omega)
          rw [hv2] at hv3
          simp only [Value.slice.injEq, true_and] at hv3
          obtain ⟨rfl, rfl⟩ := hv3
          obtain ⟨o0, a0, b0⟩ := hone.olds hi hk hv2 0 (by omega)
          obtain ⟨o1, a1, b1⟩ := hone.olds hi hk hv2 1 (by omega)
          obtain ⟨o2, a2, b2⟩ := hone.olds hi hk hv2 2 (by omega)
          obtain ⟨o3, a3, b3⟩ := hone.olds hi hk hv2 3 (by omega)
          have HS := Lib.hid (hone.store hi hk hv2)
          rw [Nat.add_zero] at a0 b0
          clear hone hv2
          go_wp2_with fail
          go_roundw
          case rel => exact ⟨k + 1, by omega, by go_num, HS.out⟩
          case measure => simp [intOf]; omega
        · have hkk : k = ns i := by omega
          subst hkk
          have HN := Lib.hid (hone.next hi)
          clear hone hv2
          go_wp2_with fail
          go_roundw
          case rel => exact ⟨i + 1, by omega, by go_num, HN.out⟩
          case measure => simp [intOf]; omega
    · have hii : m = i := by omega
      subst hii
      have hR := hone.done
      have hU := hone.1
      have h2 : Two B0 G m vs ns w 0 (.slice none 0 0) (fun _ => .bool false) wr := ⟨hU, Bk.Head.start hR ⟨HG.out.1, Nat.lt_of_lt_of_le HG.out.2 hU.upd.size⟩⟩
      have H2 := Lib.hid h2
      clear hone hR hU h2 hi him
      go_wp2_with fail
      generalize wr = wo at *
      obtain ⟨iE, hiE, hzE0, hzE1, hzE2⟩ := info_parts infoE
      obtain ⟨iS, hiS, hzS0, hzS1, hzS2⟩ := info_parts infoS
      have m2 : (m : Int) ≤ 1000000 := by omega
      go_loopw [5, 6] (fun l ii wr => ∃ (i : Nat) (ws : Nat → Value), i ≤ m ∧ ii = .int .i64 i ∧ Two B0 G m vs ns w i l ws wr) (fun _ ii _ => m - (intOf ii).toNat)
      case atStart => exact ⟨0, _, Nat.zero_le _, rfl, H2.out⟩
      case round =>
        obtain ⟨i, ws, him, rfl, htwo⟩ := hrel
        have i1 : (0 : Int) ≤ i := by omega
        by_cases hi : i < m
        · obtain ⟨Ad, c, hv⟩ := Bk.own_form (htwo.2.at_ hi)
          have y0 := htwo.2.gr.row i hi
          rw [hv] at y0
          have i0 : (i : Int) < m := by omega
          have hni := HNS.out i hi
          have e1 : IntKind.i64.wrap ((i : Int) + 1) = (i : Int) + 1 := IntWalk.i64_in _ (by omega)
          have e3 : IntKind.i64.wrap (-1 - (i : Int)) = -1 - (i : Int) := IntWalk.i64_in _ (by omega)
          have h3 : Thr B0 G m vs ns w i 0 (.slice Ad (ns i) c) u5 ws wr := ⟨htwo.1, htwo.2.gr, by rw [← hv]; exact htwo.2.at0 hi rfl⟩
          have H3 := Lib.hid h3
          clear htwo hv h3
          go_wp2_with fail
          generalize wr = wp at *
          go_loopw [7, 8] (fun x kk wr => ∃ k : Nat, k ≤ 16 ∧ kk = .int .i64 k ∧ Thr B0 G m vs ns w i k x u5 ws wr) (fun _ kk _ => 16 - (intOf kk).toNat)
          case atStart => exact ⟨0, by omega, rfl, H3.out⟩
          case round =>
            obtain ⟨k, hk16, rfl, hthr⟩ := hrel
            obtain ⟨Ax, cx, hx⟩ := Bk.own_form hthr.2.2.xo
            subst hx
            have k1 : (0 : Int) ≤ k := by omega
            have e2 : IntKind.i64.wrap ((k : Int) + 1) = (k : Int) + 1 := IntWalk.i64_in _ (by omega)
            by_cases hk : k < 16
            · have k0 : (k : Int) < 16 := by omega
              have M1 := Lib.hid (show ns i + k + 1 ≤ maxLen by unfold maxLen; omega)
              have M2 := Lib.hid (show (ns i + k + 1) * 40 ≤ 140737488355328 by omega)
              have HT := Lib.hid hthr
              have M3 := Lib.hid (show B0 ≤ (wr.alloc (.cells #[.int .u8 0, .string ⟨#[]⟩, .int .i64 k, .int .i64 (-1 - (i : Int))] 34)).heap.size by have := hthr.2.1.Glt; simp; omega)
              clear hthr
              go_wp2_with (at_builtin; refine Bk.wpList_append2 (wr.alloc (.cells #[.int .u8 0, .string ⟨#[]⟩, .int .i64 k, .int .i64 (-1 - (i : Int))] 34)) (by rfl) (.tmp 51) (.tmp 56) 26 (by rfl) B0 34 iE _ 4 40 Try.underlying26 hiE hzE0 hzE1 hzE2 rfl (by decide) (.slice Ax (ns i + k) cx) (ns i + k) (mkA ns i ++ mkB i k) (by rfl) (HT.out.2.2.xo.alloc (.cells #[.int .u8 0, .string ⟨#[]⟩, .int .i64 k, .int .i64 (-1 - (i : Int))] 34)) wr.heap.size 1 1 (tkB i k) (by rfl) (by decide) (by rfl) (World.news_of_block (heap_alloc_new wr (.cells #[.int .u8 0, .string ⟨#[]⟩, .int .i64 k, .int .i64 (-1 - (i : Int))] 34))) (tkB_one i k) M1.out M2.out M3.out ?_; intro v1 w5 ho5 hg5; have HS := Lib.hid (HT.out.grow hi ho5 hg5); clear ho5 hg5)
              go_roundw
              case rel => exact ⟨k + 1, by omega, by go_num, HS.out⟩
              case measure => simp [intOf]; omega
            · have hkk : k = 16 := by omega
              subst hkk
              have M1 := Lib.hid (show i + 1 ≤ maxLen by unfold maxLen; omega)
              have M2 := Lib.hid (show (i + 1) * 24 ≤ 140737488355328 by omega)
              have HT := Lib.hid hthr
              have M3 := Lib.hid (show B0 ≤ (wr.alloc (.cells #[.slice Ax (ns i + 16) cx] 26)).heap.size by have := hthr.2.1.Glt; simp; omega)
              clear hthr
              go_wp2_with (at_builtin; refine Bk.wpList_append2 (wr.alloc (.cells #[.slice Ax (ns i + 16) cx] 26)) (by rfl) (.tmp 58) (.tmp 60) 50 (by rfl) B0 26 iS _ 1 24 Try.underlying50 hiS hzS0 hzS1 hzS2 rfl (by decide) u5 i ((List.range i).map ws) (by rfl) (HT.out.2.1.lo.alloc (.cells #[.slice Ax (ns i + 16) cx] 26)) wr.heap.size 1 1 [.slice Ax (ns i + 16) cx] (by rfl) (by decide) (by rfl) (World.news_of_block (heap_alloc_new wr (.cells #[.slice Ax (ns i + 16) cx] 26))) (fun u hu => by simp only [List.mem_singleton] at hu; subst hu; rfl) M1.out M2.out M3.out ?_; intro v1 w5 ho5 hg5; have HS := Lib.hid (HT.out.done hi ho5 hg5); clear ho5 hg5)
              go_roundw
              case rel => exact ⟨i + 1, _, by omega, by go_num, HS.out⟩
              case measure => simp [intOf]; omega
        · have hii : m = i := by omega
          subst hii
          obtain ⟨AL, cL, hL⟩ := Bk.own_form htwo.2.gr.lo
          subst hL
          have HT := Lib.hid htwo
          have HF := Lib.hid (fun (i : Nat) (hi : i < m) => (show ∃ Ad c, vs i = .slice Ad (ns i) c from (by obtain ⟨_, xs, hR, _⟩ := H1.out; exact Bk.own_form (hR.own i hi))))
          have HF2 := Lib.hid (fun (i : Nat) (hi : i < m) (hk : 0 < ns i) => (show ∃ g c, vs i = .slice (some ⟨g, 0, none⟩) (ns i) c from (by obtain ⟨_, xs, hR, _⟩ := H1.out; exact Bk.own_some (hR.own i hi) hk)))
          clear htwo hi him
          go_wp2_with fail
          go_loop [9] (fun ii => ∃ i : Nat, i ≤ m ∧ ii = .int .i64 i) (fun ii => m - (intOf ii).toNat)
          case atStart => exact ⟨0, Nat.zero_le _, rfl⟩
          case round =>
            obtain ⟨i, him, rfl⟩ := hrel
            have i1 : (0 : Int) ≤ i := by omega
            by_cases hi : i < m
            · obtain ⟨L, cl, hL⟩ := Bk.own_some HT.out.2.gr.lo (by omega)
              simp only [Value.slice.injEq, true_and] at hL
              obtain ⟨rfl, rfl⟩ := hL
              obtain ⟨g2, c2, hw⟩ := Bk.own_some (HT.out.2.gr.lon i hi) (by omega)
              obtain ⟨Ad, c, hv⟩ := HF.out i hi
              have y0 := HT.out.2.gr.row i hi
              rw [hv] at y0
              have y1 := (Bk.own_at HT.out.2.gr.lo i (ws i) (by simp [hi])).1
              rw [hw] at y1
              have LO := HT.out.2.gr.lon i hi
              rw [hw] at LO
              have HLO := Lib.hid LO
              have HV := Lib.hid hv
              have i0 : (i : Int) < m := by omega
              have hni := HNS.out i hi
              have e1 : IntKind.i64.wrap ((i : Int) + 1) = (i : Int) + 1 := IntWalk.i64_in _ (by omega)
              have e3 : IntKind.i64.wrap (-1 - (i : Int)) = -1 - (i : Int) := IntWalk.i64_in _ (by omega)
              clear hv hw LO
              go_wp2_with fail
              go_loop [11] (fun kk => ∃ k : Nat, k ≤ ns i ∧ kk = .int .i64 k) (fun kk => ns i - (intOf kk).toNat)
              case atStart => exact ⟨0, Nat.zero_le _, rfl⟩
              case round =>
                obtain ⟨k, hkn, rfl⟩ := hrel
                have k1 : (0 : Int) ≤ k := by omega
                have k2 : (ns i : Int) ≤ 1048577 := by omega
                have e2 : IntKind.i64.wrap ((k : Int) + 1) = (k : Int) + 1 := IntWalk.i64_in _ (by omega)
                by_cases hk : k < ns i
                · have k0 : (k : Int) < ns i := by omega
                  have k3 : (k : Int) < ((ns i + 16 : Nat) : Int) := by omega
                  obtain ⟨g, cg, hv⟩ := HF2.out i hi (by omega)
                  have hv2 := HV.out
                  rw [hv] at hv2
                  simp only [Value.slice.injEq, true_and] at hv2
                  obtain ⟨rfl, rfl⟩ := hv2
                  have hold := HT.out.2.gr.hold i hi g _ _ hv
                  have a0 := hold (k * 4 + 0) _ ((marks_at (tkA i) 4 (fun _ => rfl) (ns i) k 0 hk (by omega)).trans rfl)
                  have a1 := hold (k * 4 + 1) _ ((marks_at (tkA i) 4 (fun _ => rfl) (ns i) k 1 hk (by omega)).trans rfl)
                  have a2 := hold (k * 4 + 2) _ ((marks_at (tkA i) 4 (fun _ => rfl) (ns i) k 2 hk (by omega)).trans rfl)
                  have a3 := hold (k * 4 + 3) _ ((marks_at (tkA i) 4 (fun _ => rfl) (ns i) k 3 hk (by omega)).trans rfl)
                  have hin : ∀ r, r < 4 → (mkA ns i ++ mkB i 16)[k * 4 + r]? = (tkA i k)[r]? := fun r hr => by
                    have hl := marks_length (tkA i) 4 (fun _ => rfl) (ns i)
                    have : (k + 1) * 4 ≤ ns i * 4 := Nat.mul_le_mul_right _ hk
                    rw [List.getElem?_append_left (by unfold mkA; omega)]
                    exact marks_at (tkA i) 4 (fun _ => rfl) (ns i) k r hk hr
                  have b0 := (Bk.own_at HLO.out (k * 4 + 0) _ ((hin 0 (by omega)).trans rfl)).1
                  have b1 := (Bk.own_at HLO.out (k * 4 + 1) _ ((hin 1 (by omega)).trans rfl)).1
                  have b2 := (Bk.own_at HLO.out (k * 4 + 2) _ ((hin 2 (by omega)).trans rfl)).1
                  have b3 := (Bk.own_at HLO.out (k * 4 + 3) _ ((hin 3 (by omega)).trans rfl)).1
                  rw [Nat.add_zero] at a0 b0
                  clear hv hold hin
                  go_wp2_with fail
                  go_round
                  case rel => exact ⟨k + 1, by omega, by go_num⟩
                  case measure => simp [intOf]; omega
                · have hkk : k = ns i := by omega
                  subst hkk
                  go_wp2_with fail
                  go_loop [12] (fun kk => ∃ k : Nat, k ≤ 16 ∧ kk = .int .i64 k) (fun kk => 16 - (intOf kk).toNat)
                  case atStart => exact ⟨0, Nat.zero_le _, rfl⟩
                  case round =>
                    obtain ⟨k, hk16, rfl⟩ := hrel
                    have k1 : (0 : Int) ≤ k := by omega
                    have e2 : IntKind.i64.wrap ((k : Int) + 1) = (k : Int) + 1 := IntWalk.i64_in _ (by omega)
                    by_cases hk : k < 16
                    · have k0 : (k : Int) < 16 := by omega
                      have e4 : IntKind.i64.wrap ((ns i : Int) + k) = ((ns i + k : Nat) : Int) := by rw [IntWalk.i64_in _ (by omega)]; omega
                      have hin : ∀ r, r < 4 → (mkA ns i ++ mkB i 16)[(ns i + k) * 4 + r]? = (tkB i k)[r]? := fun r hr => by
                        have hl := marks_length (tkA i) 4 (fun _ => rfl) (ns i)
                        have e5 : (ns i + k) * 4 + r = ns i * 4 + (k * 4 + r) := by omega
                        rw [e5, List.getElem?_append_right (by unfold mkA; omega)]
                        unfold mkA mkB
                        rw [hl, show ns i * 4 + (k * 4 + r) - ns i * 4 = k * 4 + r by omega]
                        exact marks_at (tkB i) 4 (fun _ => rfl) 16 k r hk hr
                      have b0 := (Bk.own_at HLO.out ((ns i + k) * 4 + 0) _ ((hin 0 (by omega)).trans rfl)).1
                      have b1 := (Bk.own_at HLO.out ((ns i + k) * 4 + 1) _ ((hin 1 (by omega)).trans rfl)).1
                      have b2 := (Bk.own_at HLO.out ((ns i + k) * 4 + 2) _ ((hin 2 (by omega)).trans rfl)).1
                      have b3 := (Bk.own_at HLO.out ((ns i + k) * 4 + 3) _ ((hin 3 (by omega)).trans rfl)).1
                      rw [Nat.add_zero] at b0
                      clear hin
                      go_wp2_with fail
                      go_round
                      case rel => exact ⟨k + 1, by omega, by go_num⟩
                      case measure => simp [intOf]; omega
                    · have hkk : k = 16 := by omega
                      subst hkk
                      go_wp2_with fail
                      go_round
                      case rel => exact ⟨i + 1, by omega, by go_num⟩
                      case measure => simp [intOf]; omega
            · have hii : i = m := by omega
              subst hii
              go_wp2_with fail
              go_ret
              exact ⟨rfl, HT.out.1⟩
end Go.Proofs.Ytecoahdeafobkaa
