import Derived.Test.YtgfabhioliljmaaProg
import Derived.Test.YtgfabhioliljmaaFx
import Derived.KernelRfl
import Derived.Laws.StructEq
import Derived.Deep.LoopGhost
import Derived.Deep.QuietTactic
import Derived.BigQuiet
import Derived.StillTailTactics
import Derived.RegionTactic
import Derived.LoopTactic
import Derived.Outline
import Derived.Handy
import Derived.Deep.RegionWith
namespace Go.Proofs.Ytgfabhioliljmaa
open Go.RowKit

/-! Two structs held against each other, field by field. -/
section
variable {P : Program} {d : Nat} {xs ys : Array Value} {f : Field} {fs : List Field} {a b : Value} {r s : Bool} {w : World}
theorem sq_one (hn : (f.name == "_") = false) (ha : (part f.type xs f.offset).run P w = .ok a w) (hb : (part f.type ys f.offset).run P w = .ok b w) (he : (Op.equalIn d f.type a b).run P w = .ok r w) : (Op.eqFields d xs ys [f]).run P w = .ok r w := by
  have hne : f.name ≠ "_" := by simpa using hn
  rw [Op.eqFields, if_pos hne]
  simp only [Sem.run_bind, ha, hb, he, Result.andThen_ok]
  cases r <;> simp [Op.eqFields]
theorem sq_more (hn : (f.name == "_") = false) (ha : (part f.type xs f.offset).run P w = .ok a w) (hb : (part f.type ys f.offset).run P w = .ok b w) (he : (Op.equalIn d f.type a b).run P w = .ok r w) (hr : (Op.eqFields d xs ys fs).run P w = .ok s w) : (Op.eqFields d xs ys (f :: fs)).run P w = .ok (r && s) w := by
  have hne : f.name ≠ "_" := by simpa using hn
  rw [Op.eqFields, if_pos hne]
  simp only [Sem.run_bind, ha, hb, he, Result.andThen_ok]
  cases r
  · simp
  · simpa using hr
theorem sq_struct {t : TypeId} {fs : Array Field} (hu : P.underlying t = some (.struct fs)) (hp : P.stoodInHeld t = false) (h : (Op.eqFields d xs ys fs.toList).run P w = .ok r w) : (Op.equalIn (d + 1) t (.agg xs) (.agg ys)).run P w = .ok r w := by
  have hf : P.fieldsOf t = fs := by simp [Program.fieldsOf, hu]
  rw [run_equalIn_struct (P := P) w d t xs ys (by rw [hf]; exact hu) hp, hf]
  exact h
end

/-- A collector's place. -/
structure Cyc where
  ph : Int
  g : Int
  s : Int
  f : Int
  b : Int
  a : Bool
deriving DecidableEq

def Cyc.bad (c : Cyc) : Prop := 3 < c.ph ∨ c.g < 0 ∨ c.s < 0 ∨ c.f < 0 ∨ c.b < 0 ∨ c.b = 9223372036854775807 ∨ c.s < c.f
instance (c : Cyc) : Decidable c.bad := by unfold Cyc.bad; infer_instance
def trim (c : Cyc) : Cyc := ⟨c.ph, if c.ph = 1 then c.g else 0, if c.ph = 3 then c.s else 0, if c.ph = 3 then c.f else 0, c.b, c.a⟩
def mayB (c : Cyc) : Bool := decide (¬ c.bad) && !(c.a && decide (c.ph ≠ 0)) && (c.g == (trim c).g && (c.s == (trim c).s && c.f == (trim c).f))

theorem eq27 (d : Nat) (w : World) (x0 y0 x1 y1 x2 y2 x3 y3 x4 y4 : Int) (x5 y5 : Bool) :
    (Op.equalIn (d + 2) 27 (.agg #[.int .u8 x0, .int .i64 x1, .int .i64 x2, .int .i64 x3, .int .i64 x4, .bool x5]) (.agg #[.int .u8 y0, .int .i64 y1, .int .i64 y2, .int .i64 y3, .int .i64 y4, .bool y5])).run Try.prog w = .ok (x0 == y0 && (x1 == y1 && (x2 == y2 && (x3 == y3 && (x4 == y4 && x5 == y5))))) w := by
  refine sq_struct Try.underlying27 (by kernel_rfl) ?_
  refine sq_more (by rfl) (by go_simp; rfl) (by go_simp; rfl) (by go_simp) ?_
  refine sq_more (by rfl) (by go_simp; rfl) (by go_simp; rfl) (by go_simp) ?_
  refine sq_more (by rfl) (by go_simp; rfl) (by go_simp; rfl) (by go_simp) ?_
  refine sq_more (by rfl) (by go_simp; rfl) (by go_simp; rfl) (by go_simp) ?_
  refine sq_more (by rfl) (by go_simp; rfl) (by go_simp; rfl) (by go_simp) ?_
  exact sq_one (by rfl) (by go_simp; rfl) (by go_simp; rfl) (by go_simp)

theorem alloc1 (w : World) (o1 o2 : Obj) : ((w.alloc o1).alloc o2).heap[w.heap.size]? = some o1 := (Below.heap_alloc _ _ _ (by simp)).trans (heap_alloc_new w o1)
theorem alloc2 (w : World) (o1 o2 : Obj) : ((w.alloc o1).alloc o2).heap[w.heap.size + 1]? = some o2 := by have := heap_alloc_new (w.alloc o1) o2; simpa using this
theorem blk6 {w : World} {b : Nat} {t : TypeId} {v0 v1 v2 v3 v4 v5 : Value} (h : w.heap[b]? = some (.cells #[v0, v1, v2, v3, v4, v5] t (0, 0))) :
    (w.cell? ⟨b, 0, none⟩ = some v0 ∧ w.cell? ⟨b, 1, none⟩ = some v1 ∧ w.cell? ⟨b, 2, none⟩ = some v2 ∧ w.cell? ⟨b, 3, none⟩ = some v3 ∧ w.cell? ⟨b, 4, none⟩ = some v4 ∧ w.cell? ⟨b, 5, none⟩ = some v5) ∧
    ∀ o, w.frozen? ⟨b, o, none⟩ = false := by
  refine ⟨⟨?_, ?_, ?_, ?_, ?_, ?_⟩, fun o => ?_⟩ <;> simp [World.cell?, World.frozen?, h]
theorem blk4 {w : World} {b : Nat} {t : TypeId} {v0 v1 v2 v3 : Value} (h : w.heap[b]? = some (.cells #[v0, v1, v2, v3] t (0, 0))) :
    (w.cell? ⟨b, 0, none⟩ = some v0 ∧ w.cell? ⟨b, 1, none⟩ = some v1 ∧ w.cell? ⟨b, 2, none⟩ = some v2 ∧ w.cell? ⟨b, 3, none⟩ = some v3) ∧
    ∀ o, w.frozen? ⟨b, o, none⟩ = false := by
  refine ⟨⟨?_, ?_, ?_, ?_⟩, fun o => ?_⟩ <;> simp [World.cell?, World.frozen?, h]
/-- Only new blocks. -/
abbrev New (w w' : World) : Prop := Upd (fun _ => False) w w'
theorem Upd.new {F : Nat → Prop} {a w : World} (h : Upd F a w) {b i : Nat} (hb : a.heap.size ≤ b) (u : Value) : Upd F a (w.setCell ⟨b, i, none⟩ u) := h.setCell (p := ⟨b, i, none⟩) (fun x => absurd x (by show ¬ b < _; omega)) u

/-- What is around. -/
structure Aro where
  cells : Int
  globals : Int
  thread : Int
  still : Bool
  told : Bool
  grey : Bool
structure Doo where
  w : Int
  g : Int
  t : Int
  c : Int
def fitsA (c : Cyc) (a : Aro) : Bool := decide (0 ≤ a.cells ∧ 0 ≤ a.globals ∧ 0 ≤ a.thread ∧ c.g ≤ a.globals ∧ c.s ≤ a.cells)
def fitsB (c : Cyc) (a : Aro) : Bool := mayB c && fitsA c a
def zeroC : Cyc := ⟨0, 0, 0, 0, 0, false⟩
def beginC (c : Cyc) : Cyc × Int := if mayB c = false then (zeroC, 171) else if c.a = true ∨ c.ph ≠ 0 then (zeroC, 170) else (⟨c.ph, c.g, c.s, c.f, c.b, true⟩, 0)
def threadD (a : Aro) : Doo := if a.still = true then ⟨21, 0, a.thread, 0⟩ else if a.told = true then ⟨0, 0, 0, 0⟩ else ⟨20, 0, a.thread, 0⟩
def nextD (c : Cyc) (a : Aro) : Doo :=
  if fitsB c a = false then ⟨0, 0, 0, 0⟩
  else if c.ph = 0 then (if c.a = true then ⟨18, 0, 0, 0⟩ else ⟨0, 0, 0, 0⟩)
  else if c.ph = 1 ∧ c.g < a.globals then ⟨19, c.g, 0, 0⟩
  else if c.ph = 1 ∧ a.thread ≠ 0 then threadD a
  else if c.ph = 1 ∨ c.ph = 2 then (if a.grey = true then ⟨22, 0, 0, 0⟩ else ⟨23, 0, 0, 0⟩)
  else if c.s < a.cells then ⟨24, 0, 0, c.s⟩ else ⟨25, 0, 0, 0⟩
def stepW (dw : Int) (c : Cyc) (back : Bool) : Cyc × Int :=
  if dw = 0 then (zeroC, 170)
  else if dw = 18 then (trim ⟨1, c.g, c.s, c.f, wrap64 (c.b + 1), false⟩, 0)
  else if dw = 19 then (trim ⟨c.ph, wrap64 (c.g + 1), c.s, c.f, c.b, c.a⟩, 0)
  else if dw = 22 then (trim ⟨2, c.g, c.s, c.f, c.b, c.a⟩, 0)
  else if dw = 23 then (trim ⟨3, c.g, c.s, c.f, c.b, c.a⟩, 0)
  else if dw = 24 then (trim ⟨c.ph, c.g, wrap64 (c.s + 1), if back = true then wrap64 (c.f + 1) else c.f, c.b, c.a⟩, 0)
  else if dw = 25 then (trim ⟨0, c.g, c.s, c.f, c.b, c.a⟩, 0)
  else (trim c, 0)
def stepC (c : Cyc) (a : Aro) (back : Bool) : Cyc × Int := if fitsB c a = false then (zeroC, 171) else stepW (nextD c a).w c back

theorem trim_calls (c : Cyc) (w : World) :
    Calls Try.prog 25 #[.agg #[.int .u8 c.ph, .int .i64 c.g, .int .i64 c.s, .int .i64 c.f, .int .i64 c.b, .bool c.a]] w fun e w' =>
      e = .returned (.agg #[.int .u8 (trim c).ph, .int .i64 (trim c).g, .int .i64 (trim c).s, .int .i64 (trim c).f, .int .i64 (trim c).b, .bool (trim c).a]) ∧ New w w' := by
  obtain ⟨ph, g, s, f, b, a⟩ := c
  by_cases h1 : ph = 1
  · subst h1
    go_enter Try.func25, Try.ntmps25
    go_wp2
    refine bodyPost_ret (v := .agg #[.int .u8 1, .int .i64 g, .int .i64 0, .int .i64 0, .int .i64 b, .bool a]) (by simp [results, Try.results25, go_sem]) rfl ⟨by simp [trim], ?_⟩
    repeat (with_reducible first | exact Upd.refl _ _ | refine Upd.new ?_ (by simp) _ | refine Upd.alloc ?_ _)
  · have h1b : (ph == 1) = false := by rw [beq_eq_false_iff_ne]; exact h1
    by_cases h3 : ph = 3
    · subst h3
      go_enter Try.func25, Try.ntmps25
      go_wp2
      refine bodyPost_ret (v := .agg #[.int .u8 3, .int .i64 0, .int .i64 s, .int .i64 f, .int .i64 b, .bool a]) (by simp [results, Try.results25, go_sem]) rfl ⟨by simp [trim], ?_⟩
      repeat (with_reducible first | exact Upd.refl _ _ | refine Upd.new ?_ (by simp) _ | refine Upd.alloc ?_ _)
    · have h3b : (ph == 3) = false := by rw [beq_eq_false_iff_ne]; exact h3
      have h1c : (ph != 1) = true := by rw [bne_iff_ne]; exact h1
      have h3c : (ph != 3) = true := by rw [bne_iff_ne]; exact h3
      go_enter Try.func25, Try.ntmps25
      go_wp2
      refine bodyPost_ret (v := .agg #[.int .u8 ph, .int .i64 0, .int .i64 0, .int .i64 0, .int .i64 b, .bool a]) (by simp [results, Try.results25, go_sem]) rfl ⟨by simp [trim, h1, h3], ?_⟩
      repeat (with_reducible first | exact Upd.refl _ _ | refine Upd.new ?_ (by simp) _ | refine Upd.alloc ?_ _)

attribute [local go_sem high] eq27

set_option maxHeartbeats 1000000 in
theorem may_calls (c : Cyc) (w : World) :
    Calls Try.prog 21 #[.agg #[.int .u8 c.ph, .int .i64 c.g, .int .i64 c.s, .int .i64 c.f, .int .i64 c.b, .bool c.a]] w fun e w' => e = .returned (.bool (mayB c)) ∧ New w w' := by
  by_cases hbad : c.bad
  · have hm : mayB c = false := by simp [mayB, hbad]
    rw [hm]
    clear hm
    obtain ⟨ph, g, s, f, b, a⟩ := c
    have hb : 3 < ph ∨ g < 0 ∨ s < 0 ∨ f < 0 ∨ b < 0 ∨ b = 9223372036854775807 ∨ s < f := hbad
    clear hbad
    go_enter Try.func21, Try.ntmps21
    go_wp2_with fail
    all_goals (go_ret; exact ⟨rfl, by repeat (with_reducible first | exact Upd.refl _ _ | refine Upd.new ?_ (by simp) _ | refine Upd.alloc ?_ _ | refine Upd.drew ?_ | refine Upd.drewN ?_ _)⟩)
  · have ht := trim_calls c
    obtain ⟨ph, g, s, f, b, a⟩ := c
    have hb : ¬ (3 < ph ∨ g < 0 ∨ s < 0 ∨ f < 0 ∨ b < 0 ∨ b = 9223372036854775807 ∨ s < f) := hbad
    have h1 : decide (3 < ph) = false := by rw [decide_eq_false_iff_not]; omega
    have h2 : decide (g < 0) = false := by rw [decide_eq_false_iff_not]; omega
    have h3 : decide (s < 0) = false := by rw [decide_eq_false_iff_not]; omega
    have h4 : decide (f < 0) = false := by rw [decide_eq_false_iff_not]; omega
    have h5 : decide (b < 0) = false := by rw [decide_eq_false_iff_not]; omega
    have h6 : (b == 9223372036854775807) = false := by rw [beq_eq_false_iff_ne]; omega
    have h7 : decide (s < f) = false := by rw [decide_eq_false_iff_not]; omega
    clear hb
    have Ht := Lib.hid ht
    clear ht
    by_cases hz : a = true ∧ ph ≠ 0
    · obtain ⟨rfl, hz⟩ := hz
      have hm : mayB ⟨ph, g, s, f, b, true⟩ = false := by simp [mayB, hz]
      rw [hm]
      clear hm hbad Ht
      have hzb : (ph != 0) = true := by rw [bne_iff_ne]; exact hz
      go_enter Try.func21, Try.ntmps21
      go_wp2_with fail
      go_ret
      exact ⟨rfl, by repeat (with_reducible first | exact Upd.refl _ _ | refine Upd.new ?_ (by simp) _ | refine Upd.alloc ?_ _ | refine Upd.drew ?_ | refine Upd.drewN ?_ _)⟩
    · have hm : mayB ⟨ph, g, s, f, b, a⟩ = (ph == (trim ⟨ph, g, s, f, b, a⟩).ph && (g == (trim ⟨ph, g, s, f, b, a⟩).g && (s == (trim ⟨ph, g, s, f, b, a⟩).s && (f == (trim ⟨ph, g, s, f, b, a⟩).f && (b == (trim ⟨ph, g, s, f, b, a⟩).b && a == (trim ⟨ph, g, s, f, b, a⟩).a))))) := by
        have ha : (a && decide (ph ≠ 0)) = false := by cases a <;> simp_all
        simp only [mayB, hbad, ha, not_false_eq_true, decide_true, Bool.true_and, Bool.not_false]
        simp [trim]
      have Hm := Lib.hid hm
      clear hm hbad
      have hzb : a = false ∨ (a = true ∧ (ph != 0) = false) := by cases a <;> simp_all
      clear hz
      rcases hzb with rfl | ⟨rfl, hzb⟩
      · go_enter Try.func21, Try.ntmps21
        go_wp2_with fail
        go_region_with (go_at_call 25; refine (Ht.out _).mono ?_; rintro e w1 ⟨rfl, hu⟩; have hk := hu.heap (k := w.heap.size) (o := .cells #[.int .u8 ph, .int .i64 g, .int .i64 s, .int .i64 f, .int .i64 b, .bool false] 27 (0, 0)) (by exact heap_alloc_new w _) (fun x => x); obtain ⟨⟨k0, k1, k2, k3, k4, k5⟩, _⟩ := blk6 hk; have HU := Lib.hid hu; clear hu hk)
        all_goals go_wp2
        all_goals (go_ret; exact ⟨ret_bool Hm.out.symm, by refine Upd.trans ?_ HU.out; repeat (with_reducible first | exact Upd.refl _ _ | refine Upd.new ?_ (by simp) _ | refine Upd.alloc ?_ _ | refine Upd.drew ?_ | refine Upd.drewN ?_ _)⟩)
      · go_enter Try.func21, Try.ntmps21
        go_wp2_with fail
        go_region_with (go_at_call 25; refine (Ht.out _).mono ?_; rintro e w1 ⟨rfl, hu⟩; have hk := hu.heap (k := w.heap.size) (o := .cells #[.int .u8 ph, .int .i64 g, .int .i64 s, .int .i64 f, .int .i64 b, .bool true] 27 (0, 0)) (by exact heap_alloc_new w _) (fun x => x); obtain ⟨⟨k0, k1, k2, k3, k4, k5⟩, _⟩ := blk6 hk; have HU := Lib.hid hu; clear hu hk)
        all_goals go_wp2
        all_goals (go_ret; exact ⟨ret_bool Hm.out.symm, by refine Upd.trans ?_ HU.out; repeat (with_reducible first | exact Upd.refl _ _ | refine Upd.new ?_ (by simp) _ | refine Upd.alloc ?_ _ | refine Upd.drew ?_ | refine Upd.drewN ?_ _)⟩)
end Go.Proofs.Ytgfabhioliljmaa
