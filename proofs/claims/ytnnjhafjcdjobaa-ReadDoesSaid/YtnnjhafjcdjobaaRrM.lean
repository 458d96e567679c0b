/- The reference's reader: what it bears, and its small methods. The reference's reader: a datum that is one token, and one that is none. The reference's reader: a datum that begins with a bracket is what list gives. The reference's reader: a quote that opens too much. The reference's reader: a quote. The reference's reader: a quote, of a datum that is bad. -/
import Derived.Test.YtnnjhafjcdjobaaRsB
import Derived.Test.YtnnjhafjcdjobaaRdD
import Derived.Test.YtnnjhafjcdjobaaRdE
namespace Go.Proofs.Ytnnjhafjcdjobaa
open Go.RowKit
set_option linter.unusedVariables false
set_option linter.unusedSimpArgs false

/-- The reference reader's block. -/
def RPar (w : World) (rb tg tl tc : Nat) (i o m : Int) (bad : Value) : Prop := w.heap[rb]? = some (.cells #[.slice (some ⟨tg, 0, none⟩) tl tc, .int .i64 i, .int .i64 o, .int .i64 m, bad] 101 (0, 0))
theorem RPar.lt {w : World} {rb tg tl tc : Nat} {i o m : Int} {bad : Value} (h : RPar w rb tg tl tc i o m bad) : rb < w.heap.size := (Array.getElem?_eq_some_iff.1 h).1
theorem rpar_set {w : World} {rb tg tl tc : Nat} {i o m : Int} {bad : Value} (h : RPar w rb tg tl tc i o m bad) :
    (∀ z, RPar (w.setCell ⟨rb, 1, none⟩ (.int .i64 z)) rb tg tl tc z o m bad) ∧ (∀ z, RPar (w.setCell ⟨rb, 2, none⟩ (.int .i64 z)) rb tg tl tc i z m bad) ∧ (∀ z, RPar (w.setCell ⟨rb, 3, none⟩ (.int .i64 z)) rb tg tl tc i o z bad) ∧ ∀ z, RPar (w.setCell ⟨rb, 4, none⟩ z) rb tg tl tc i o m z :=
  ⟨fun z => bset h 1 _, fun z => bset h 2 _, fun z => bset h 3 _, fun z => bset h 4 _⟩
theorem rblk {w : World} {b : Nat} {t : TypeId} {v0 v1 v2 v3 v4 : Value} (h : w.heap[b]? = some (.cells #[v0, v1, v2, v3, v4] t (0, 0))) :
    w.cell? ⟨b, 0, none⟩ = some v0 ∧ w.cell? ⟨b, 1, none⟩ = some v1 ∧ w.cell? ⟨b, 2, none⟩ = some v2 ∧ w.cell? ⟨b, 3, none⟩ = some v3 ∧ w.cell? ⟨b, 4, none⟩ = some v4 ∧ w.frozen? ⟨b, 0, none⟩ = false ∧ w.frozen? ⟨b, 1, none⟩ = false ∧ w.frozen? ⟨b, 2, none⟩ = false ∧ w.frozen? ⟨b, 3, none⟩ = false ∧ w.frozen? ⟨b, 4, none⟩ = false := by
  obtain ⟨⟨a, b, c, d, e⟩, f⟩ := blk5 h
  exact ⟨a, b, c, d, e, f _, f _, f _, f _, f _⟩

/-- What the first fault leaves: where it lies, and what it says. -/
def RWrong (w : World) (v : Value) (er a : Int) : Prop := ∃ g, v = .pointer (some ⟨g, 0, none⟩) ∧ w.heap[g]? = some (.cells #[.int .i64 er, .int .i64 a] 104 (0, 0))

theorem rfail_calls (L : List Tok) (w : World) (rb tg tc i : Nat) (o m : Int) (er : Int) (hp : RPar w rb tg L.length tc i o m (.pointer none)) (ht : Toks w tg L) (hi : i < L.length) (hl : (L.length : Int) ≤ 1048577) (hne : tg ≠ rb) :
    Calls Try.prog 98 #[.pointer (some ⟨rb, 0, none⟩), .int .i64 er] w fun e w' => e = .returned (.tuple #[]) ∧ RPar w' rb tg L.length tc i o m (.pointer (some ⟨w.heap.size, 0, none⟩)) ∧ w'.heap[w.heap.size]? = some (.cells #[.int .i64 er, .int .i64 (tokA L i)] 104 (0, 0)) ∧ Upd (fun b => b = rb) w w' := by
  obtain ⟨z0, z1, z2, z3, z4, zf0, zf1, zf2, zf3, zf4⟩ := rblk hp
  obtain ⟨-, -, -, t0⟩ := tok_kind ht hi
  have i0 : (0 : Int) ≤ i := by omega
  have i1 : (i : Int) < L.length := by omega
  have hpl := hp.lt
  have htl := ht.1
  have HP := Lib.hid hp
  have HT := Lib.hid ht
  clear hp ht hi
  go_enter Try.func98, Try.ntmps98
  go_wp2_with fail
  go_region
  go_wp2_with fail
  go_end0
  have hne2 : w.heap.size ≠ rb := by omega
  refine ⟨rfl, ?_, ?_, ?_⟩
  · exact halloc ((rpar_set HP.out).2.2.2 _) _
  · have := heap_alloc_new (w.setCell ⟨rb, 4, none⟩ (.pointer (some ⟨w.heap.size, 0, none⟩))) (Obj.cells #[Value.int IntKind.i64 er, Value.int IntKind.i64 (tokA L i)] 104)
    show ((w.setCell _ _).alloc _).heap[_]? = _
    simpa using this
  · exact (((Upd.refl (fun b => b = rb) w).set rfl _).alloc _).drew
theorem rfail_again (w : World) (rb tg tl tc i : Nat) (o m : Int) (er : Int) (q : _) (hp : RPar w rb tg tl tc i o m (.pointer (some q))) :
    Calls Try.prog 98 #[.pointer (some ⟨rb, 0, none⟩), .int .i64 er] w fun e w' => e = .returned (.tuple #[]) ∧ w' = w := by
  obtain ⟨z0, z1, z2, z3, z4, zf0, zf1, zf2, zf3, zf4⟩ := rblk hp
  clear hp
  go_enter Try.func98, Try.ntmps98
  go_wp2_with fail
  go_end0
  exact ⟨rfl, rfl⟩

theorem rcount_ok (w : World) (rb tg tl tc : Nat) (i o : Int) (m n : Nat) (hp : RPar w rb tg tl tc i o m (.pointer none)) (h : m + n ≤ 10000) :
    Calls Try.prog 99 #[.pointer (some ⟨rb, 0, none⟩), .int .i64 n] w fun e w' => e = .returned (.tuple #[]) ∧ w' = w.setCell ⟨rb, 3, none⟩ (.int .i64 ((m : Int) + n)) := by
  obtain ⟨z0, z1, z2, z3, z4, zf0, zf1, zf2, zf3, zf4⟩ := rblk hp
  have h1 : (m : Int) + n ≤ 10000 := by omega
  have h2 : decide (10000 < m + n) = false := by simp; omega
  have h3 : (0 : Int) ≤ (m : Int) + n := by omega
  clear h hp
  go_enter Try.func99, Try.ntmps99
  go_wp2_with fail
  go_end0
  exact ⟨rfl, rfl⟩
/-- What a first fault leaves behind it. -/
def RBad (w : World) (rb tg tl tc : Nat) (i o m : Int) (er a : Int) (w' : World) : Prop := ∃ g, w.heap.size ≤ g ∧ RPar w' rb tg tl tc i o m (.pointer (some ⟨g, 0, none⟩)) ∧ w'.heap[g]? = some (.cells #[.int .i64 er, .int .i64 a] 104 (0, 0)) ∧ Upd (fun b => b = rb) w w'
theorem rcount_bad (L : List Tok) (w : World) (rb tg tc i : Nat) (o : Int) (m n : Nat) (hp : RPar w rb tg L.length tc i o m (.pointer none)) (ht : Toks w tg L) (hi : i < L.length) (hl : (L.length : Int) ≤ 1048577) (hne : tg ≠ rb) (h : 10000 < m + n) (hb : m + n ≤ 20000) :
    Calls Try.prog 99 #[.pointer (some ⟨rb, 0, none⟩), .int .i64 n] w fun e w' => e = .returned (.tuple #[]) ∧ RBad w rb tg L.length tc i o (m + n : Nat) 62 (tokA L i) w' := by
  obtain ⟨z0, z1, z2, z3, z4, zf0, zf1, zf2, zf3, zf4⟩ := rblk hp
  have h2 : decide ((10000 : Int) < (m : Int) + n) = true := by rw [decide_eq_true_iff]; omega
  have h3 : (0 : Int) ≤ (m : Int) + n := by omega
  have h4 : (m : Int) + n ≤ 20000 := by omega
  have hu : Upd (fun b => b = rb) w (w.setCell ⟨rb, 3, none⟩ (.int .i64 ((m : Int) + n))) := (Upd.refl (fun b => b = rb) w).set rfl _
  have hf := rfail_calls L (w.setCell ⟨rb, 3, none⟩ (.int .i64 ((m : Int) + n))) rb tg tc i o (m + n : Nat) 62 ((rpar_set hp).2.2.1 _) ⟨by have := ht.1; simpa using this, fun j u hj => hu.cell (ht.2 j u hj) hne⟩ hi hl hne
  have HF := Lib.hid hf
  have HU := Lib.hid hu
  clear h hp hf hu ht hi hb
  go_enter Try.func99, Try.ntmps99
  go_wp2_with (go_at_call 98; refine HF.out.mono ?_; rintro e w1 ⟨rfl, hp1, hg1, hu1⟩)
  go_end0
  refine ⟨rfl, _, ?_, hp1, hg1, HU.out.trans hu1⟩
  simp
theorem rcount_again (w : World) (rb tg tl tc i : Nat) (o : Int) (m n : Nat) (q : _) (hp : RPar w rb tg tl tc i o m (.pointer (some q))) (h : m + n ≤ 20000) :
    Calls Try.prog 99 #[.pointer (some ⟨rb, 0, none⟩), .int .i64 n] w fun e w' => e = .returned (.tuple #[]) ∧ w' = w.setCell ⟨rb, 3, none⟩ (.int .i64 ((m : Int) + n)) := by
  obtain ⟨z0, z1, z2, z3, z4, zf0, zf1, zf2, zf3, zf4⟩ := rblk hp
  have h3 : (0 : Int) ≤ (m : Int) + n := by omega
  have h4 : (m : Int) + n ≤ 20000 := by omega
  have HF := Lib.hid (rfail_again (w.setCell ⟨rb, 3, none⟩ (.int .i64 ((m : Int) + n))) rb tg tl tc i o ((m : Int) + n) 62 q ((rpar_set hp).2.2.1 _))
  cases h2 : decide ((10000 : Int) < (m : Int) + n)
  · clear h hp HF
    go_enter Try.func99, Try.ntmps99
    go_wp2_with fail
    go_end0
    exact ⟨rfl, rfl⟩
  · clear h hp
    go_enter Try.func99, Try.ntmps99
    go_wp2_with (go_at_call 98; refine HF.out.mono ?_; rintro e w1 ⟨rfl, rfl⟩)
    go_end0
    exact ⟨rfl, rfl⟩

theorem RWrong.far {w w' : World} {F : Nat → Prop} {g : Nat} {o : Obj} (h : w.heap[g]? = some o) (hu : Upd F w w') (hf : ¬ F g) : w'.heap[g]? = some o := hu.heap h hf
theorem ropens_ok (w : World) (rb tg tl tc : Nat) (i : Int) (o m n : Nat) (hp : RPar w rb tg tl tc i o m (.pointer none)) (h : m + n ≤ 10000) (ho : o < 100) :
    Calls Try.prog 97 #[.pointer (some ⟨rb, 0, none⟩), .int .i64 n] w fun e w' => e = .returned (.tuple #[]) ∧ RPar w' rb tg tl tc i (o + 1 : Nat) (m + n : Nat) (.pointer none) ∧ Upd (fun b => b = rb) w w' := by
  obtain ⟨z0, z1, z2, z3, z4, zf0, zf1, zf2, zf3, zf4⟩ := rblk hp
  have hp2 := (rpar_set hp).2.1 ((o : Int) + 1)
  have hc := Lib.hid (rcount_ok _ rb tg tl tc i _ m n hp2 h)
  have HP := Lib.hid hp2
  have ho1 : ((o : Int) == 100) = false := by simp; omega
  have ho3 : (o : Int) < 100 := by omega
  clear h hp hp2 ho
  go_enter Try.func97, Try.ntmps97
  go_wp2_with (go_at_call 99; refine hc.out.mono ?_; rintro e w1 ⟨rfl, rfl⟩)
  go_end0
  refine ⟨rfl, ?_, ?_⟩
  · have h1 := (rpar_set HP.out).2.2.1 ((m : Int) + n)
    simpa using h1
  · exact ((Upd.refl (fun b => b = rb) w).set rfl _).set rfl _
theorem ropens_much (L : List Tok) (w : World) (rb tg tc i : Nat) (o m n : Nat) (hp : RPar w rb tg L.length tc i o m (.pointer none)) (ht : Toks w tg L) (hi : i < L.length) (hl : (L.length : Int) ≤ 1048577) (hne : tg ≠ rb) (ho : o < 100) (h : 10000 < m + n) (hb : m + n ≤ 20000) :
    Calls Try.prog 97 #[.pointer (some ⟨rb, 0, none⟩), .int .i64 n] w fun e w' => e = .returned (.tuple #[]) ∧ RBad w rb tg L.length tc i (o + 1 : Nat) (m + n : Nat) 62 (tokA L i) w' := by
  obtain ⟨z0, z1, z2, z3, z4, zf0, zf1, zf2, zf3, zf4⟩ := rblk hp
  have hp2 := (rpar_set hp).2.1 ((o : Int) + 1)
  have hu : Upd (fun b => b = rb) w (w.setCell ⟨rb, 2, none⟩ (.int .i64 ((o : Int) + 1))) := (Upd.refl (fun b => b = rb) w).set rfl _
  have hc := Lib.hid (rcount_bad L _ rb tg tc i _ m n hp2 ⟨by have := ht.1; simpa using this, fun j u hj => hu.cell (ht.2 j u hj) hne⟩ hi hl hne h hb)
  have HU := Lib.hid hu
  have ho1 : ((o : Int) == 100) = false := by simp; omega
  have ho3 : (o : Int) < 100 := by omega
  clear h hp hp2 ho hu ht hi hb
  go_enter Try.func97, Try.ntmps97
  go_wp2_with (go_at_call 99; refine hc.out.mono ?_; rintro e w1 ⟨rfl, g, hg, hr1, hg1, hu1⟩)
  go_end0
  refine ⟨rfl, g, ?_, by simpa using hr1, hg1, HU.out.trans hu1⟩
  simpa using hg
theorem ropens_deep (L : List Tok) (w : World) (rb tg tc i : Nat) (m n : Nat) (hp : RPar w rb tg L.length tc i 100 m (.pointer none)) (ht : Toks w tg L) (hi : i < L.length) (hl : (L.length : Int) ≤ 1048577) (hne : tg ≠ rb) (hb : m + n ≤ 20000) :
    Calls Try.prog 97 #[.pointer (some ⟨rb, 0, none⟩), .int .i64 n] w fun e w' => e = .returned (.tuple #[]) ∧ RBad w rb tg L.length tc i 101 (m + n : Nat) 61 (tokA L i) w' := by
  obtain ⟨z0, z1, z2, z3, z4, zf0, zf1, zf2, zf3, zf4⟩ := rblk hp
  have HF := Lib.hid (rfail_calls L w rb tg tc i 100 m 61 hp ht hi hl hne)
  have HL := Lib.hid hp.lt
  clear hp ht hi
  go_enter Try.func97, Try.ntmps97
  go_wp2_with (go_at_call 98; refine HF.out.mono ?_; rintro e w1 ⟨rfl, hr1, hg1, hu1⟩; clear z0 z1 z2 z3 z4 zf0 zf1 zf2 zf3 zf4; obtain ⟨z0, z1, z2, z3, z4, zf0, zf1, zf2, zf3, zf4⟩ := rblk hr1; have HR := Lib.hid hr1; have HG := Lib.hid hg1; have HU := Lib.hid hu1; clear hr1 hg1 hu1)
  have hp2 := (rpar_set HR.out).2.1 101
  refine (rcount_again _ rb tg L.length tc i _ m n _ hp2 hb).mono ?_
  rintro e w2 ⟨rfl, rfl⟩
  go_wp2_with fail
  go_end0
  have hne2 : w.heap.size ≠ rb := by have := HL.out; omega
  refine ⟨rfl, _, Nat.le_refl _, ?_, bother (bother HG.out hne2 _) hne2 _, (HU.out.set rfl _).set rfl _⟩
  have h1 := (rpar_set hp2).2.2.1 ((m : Int) + n)
  simpa using h1
end Go.Proofs.Ytnnjhafjcdjobaa

namespace Go.Proofs.Ytnnjhafjcdjobaa
open Go.RowKit
set_option linter.unusedVariables false
set_option linter.unusedSimpArgs false

/-- A datum was read. -/
def RDOk (w : World) (rb tg tl tc : Nat) (d : Dat) (i o m : Nat) (e : Ending) (w' : World) : Prop :=
  ∃ kv bs, e = .returned (datV d kv) ∧ RPar w' rb tg tl tc i o m (.pointer none) ∧ Upd (fun b => b = rb) w w' ∧ Own w' w.heap.size kv d.kids bs ∧ bs.Nodup
/-- A fault was met: what is returned is some datum. -/
def RDBad (w : World) (rb tg tl tc i : Nat) (er a : Int) (e : Ending) (w' : World) : Prop :=
  ∃ (d : Dat) (kv : Value) (bs : List Nat) (z1 z2 z3 : Int) (g : Nat), e = .returned (datV d kv) ∧ w.heap.size ≤ g ∧ RPar w' rb tg tl tc z1 z2 z3 (.pointer (some ⟨g, 0, none⟩)) ∧
    w'.heap[g]? = some (.cells #[.int .i64 er, .int .i64 a] 104 (0, 0)) ∧ Upd (fun b => b = rb) w w' ∧ Own w' w.heap.size kv d.kids bs ∧ bs.Nodup ∧ g ∉ bs ∧ d.kids.length + i ≤ tl
def RDPost (w : World) (rb tg tl tc at_ o : Nat) : PR Dat → Ending → World → Prop
  | .ok d i m, e, w' => RDOk w rb tg tl tc d i o m e w'
  | .bad er a, e, w' => RDBad w rb tg tl tc at_ er a e w'
  | .out, _, _ => True
theorem rcount_ok' (w : World) (rb tg tl tc : Nat) (i o : Int) (m n : Nat) (hp : RPar w rb tg tl tc i o m (.pointer none)) (h : m + n ≤ 10000) :
    Calls Try.prog 99 #[.pointer (some ⟨rb, 0, none⟩), .int .i64 n] w fun e w' => e = .returned (.tuple #[]) ∧ RPar w' rb tg tl tc i o (m + n : Nat) (.pointer none) ∧ Upd (fun b => b = rb) w w' :=
  (rcount_ok w rb tg tl tc i o m n hp h).mono fun e w' ⟨he, hw⟩ => ⟨he, by rw [hw]; exact (rpar_set hp).2.2.1 _, by rw [hw]; exact (Upd.refl (fun b => b = rb) w).set rfl _⟩

theorem rfail_bad (L : List Tok) (w : World) (rb tg tc i : Nat) (o m : Int) (er : Int) (hp : RPar w rb tg L.length tc i o m (.pointer none)) (ht : Toks w tg L) (hi : i < L.length) (hl : (L.length : Int) ≤ 1048577) (hne : tg ≠ rb) :
    Calls Try.prog 98 #[.pointer (some ⟨rb, 0, none⟩), .int .i64 er] w fun e w' => e = .returned (.tuple #[]) ∧ RBad w rb tg L.length tc i o m er (tokA L i) w' :=
  (rfail_calls L w rb tg tc i o m er hp ht hi hl hne).mono fun e w' h => ⟨h.1, _, Nat.le_refl _, h.2.1, h.2.2.1, h.2.2.2⟩

set_option maxHeartbeats 2000000 in
theorem rdatum_leaf (L : List Tok) (w : World) (rb tg tc i : Nat) (o m : Nat) (hp : RPar w rb tg L.length tc i o m (.pointer none)) (ht : Toks w tg L) (hi : i < L.length) (hl : (L.length : Int) ≤ 1048577) (hcap : m + 1 ≤ 10000) (hk : tokK L i = 5 ∨ tokK L i = 6 ∨ tokK L i = 7 ∨ tokK L i = 8) :
    Calls Try.prog 51 #[.pointer (some ⟨rb, 0, none⟩)] w (RDOk w rb tg L.length tc (leafD L i) (i + 1) o (m + 1)) := by
  obtain ⟨z0, z1, z2, z3, z4, zf0, zf1, zf2, zf3, zf4⟩ := rblk hp
  obtain ⟨t0, t1, t2, t3⟩ := tok_kind ht hi
  have i0 : (0 : Int) ≤ i := by omega
  have i1 : (i : Int) < L.length := by omega
  have hpl := hp.lt
  have htl := ht.1
  have HP := Lib.hid hp
  have HT := Lib.hid ht
  have HI := Lib.hid hi
  clear hp ht hi
  unfold leafD
  generalize tokK L i = k at *
  rcases hk with rfl | rfl | rfl | rfl
  all_goals
    go_enter Try.func51, Try.ntmps51
    go_wp2_with fail
    first
      | go_region_held3 (fun w' => w'.cell? ⟨rb, 0, none⟩ = some (.slice (some ⟨tg, 0, none⟩) L.length tc) ∧ w'.cell? ⟨rb, 1, none⟩ = some (.int .i64 i) ∧ w'.cell? ⟨tg, i * 4, none⟩ = some (.int .u8 5) ∧ w'.cell? ⟨tg, i * 4 + 1, none⟩ = some (.string (tokT L i)) ∧ w'.cell? ⟨tg, i * 4 + 2, none⟩ = some (.int .i64 (tokN L i)) ∧ w'.cell? ⟨tg, i * 4 + 3, none⟩ = some (.int .i64 (tokA L i))) (go_keep) (fail)
      | go_region_held3 (fun w' => w'.cell? ⟨rb, 0, none⟩ = some (.slice (some ⟨tg, 0, none⟩) L.length tc) ∧ w'.cell? ⟨rb, 1, none⟩ = some (.int .i64 i) ∧ w'.cell? ⟨tg, i * 4, none⟩ = some (.int .u8 6) ∧ w'.cell? ⟨tg, i * 4 + 1, none⟩ = some (.string (tokT L i)) ∧ w'.cell? ⟨tg, i * 4 + 2, none⟩ = some (.int .i64 (tokN L i)) ∧ w'.cell? ⟨tg, i * 4 + 3, none⟩ = some (.int .i64 (tokA L i))) (go_keep) (fail)
      | go_region_held3 (fun w' => w'.cell? ⟨rb, 0, none⟩ = some (.slice (some ⟨tg, 0, none⟩) L.length tc) ∧ w'.cell? ⟨rb, 1, none⟩ = some (.int .i64 i) ∧ w'.cell? ⟨tg, i * 4, none⟩ = some (.int .u8 7) ∧ w'.cell? ⟨tg, i * 4 + 1, none⟩ = some (.string (tokT L i)) ∧ w'.cell? ⟨tg, i * 4 + 2, none⟩ = some (.int .i64 (tokN L i)) ∧ w'.cell? ⟨tg, i * 4 + 3, none⟩ = some (.int .i64 (tokA L i))) (go_keep) (fail)
      | go_region_held3 (fun w' => w'.cell? ⟨rb, 0, none⟩ = some (.slice (some ⟨tg, 0, none⟩) L.length tc) ∧ w'.cell? ⟨rb, 1, none⟩ = some (.int .i64 i) ∧ w'.cell? ⟨tg, i * 4, none⟩ = some (.int .u8 8) ∧ w'.cell? ⟨tg, i * 4 + 1, none⟩ = some (.string (tokT L i)) ∧ w'.cell? ⟨tg, i * 4 + 2, none⟩ = some (.int .i64 (tokN L i)) ∧ w'.cell? ⟨tg, i * 4 + 3, none⟩ = some (.int .i64 (tokA L i))) (go_keep) (fail)
    go_wp2_with fail
    refine (rcount_ok' _ rb tg L.length tc i o m 1 (by exact halloc (halloc HP.out _) _) hcap).mono ?_
    rintro e w1 ⟨rfl, hp1, hu1⟩
    have ha := hu1.heap (k := w.heap.size) (by exact alloc1 _ _ _) (by show ¬ _ = rb; omega)
    have hc := hu1.heap (k := w.heap.size + 1) (by exact alloc2 _ _ _) (by show ¬ _ = rb; omega)
    have hsz1 := hu1.size
    have HU := Lib.hid ((Upd.refl (fun b => b = rb) w).trans' ((((Upd.refl (fun b => b = rb) w).alloc _).drew).alloc _ |>.trans hu1) (fun _ _ x => x))
    clear z0 z1 z2 z3 z4 zf0 zf1 zf2 zf3 zf4 t0 t1 t2 t3 hu1
    obtain ⟨y0, y1, y2, y3, y4, yf0, yf1, yf2, yf3, yf4⟩ := rblk hp1
    obtain ⟨⟨a0, a1, a2, a3, a4⟩, af⟩ := blk5 ha
    obtain ⟨c0, c1, c2, c3, cf0, cf1, cf2, cf3⟩ := blk4f hc
    have HP1 := Lib.hid hp1
    have HA := Lib.hid ha
    clear hp1 ha hc
    go_wp2_with fail
    have hnn : w.heap.size ≠ rb := by omega
    refine bodyPost_ret (results_cell1 rfl _ _ w.heap.size 58 #[_, _, _, _, _] _ rfl (by exact bset5 (bother HA.out hnn _)) Try.underlying58 rfl size58) rfl ⟨.slice none 0 0, [], rfl, ?_, ?_, ?_, by simp⟩
    · exact bother5 (hnn.symm) ((rpar_set HP1.out).1 _)
    · exact upd5 (Nat.le_refl _) (HU.out.set rfl _)
    · exact Own.nil _ _

set_option maxHeartbeats 2000000 in
theorem rdatum_leaf_bad (L : List Tok) (w : World) (rb tg tc i : Nat) (o m : Nat) (hp : RPar w rb tg L.length tc i o m (.pointer none)) (ht : Toks w tg L) (hi : i < L.length) (hl : (L.length : Int) ≤ 1048577) (hne : tg ≠ rb) (hcap : 10000 < m + 1) (hm : m ≤ 10000) (hk : tokK L i = 5 ∨ tokK L i = 6 ∨ tokK L i = 7 ∨ tokK L i = 8) :
    Calls Try.prog 51 #[.pointer (some ⟨rb, 0, none⟩)] w (RDBad w rb tg L.length tc i 62 (tokA L i)) := by
  obtain ⟨z0, z1, z2, z3, z4, zf0, zf1, zf2, zf3, zf4⟩ := rblk hp
  obtain ⟨t0, t1, t2, t3⟩ := tok_kind ht hi
  have i0 : (0 : Int) ≤ i := by omega
  have i1 : (i : Int) < L.length := by omega
  have hpl := hp.lt
  have htl := ht.1
  have HP := Lib.hid hp
  have HT := Lib.hid ht
  have HI := Lib.hid hi
  clear hp ht hi
  generalize tokK L i = k at *
  rcases hk with rfl | rfl | rfl | rfl
  all_goals
    go_enter Try.func51, Try.ntmps51
    go_wp2_with fail
    first
      | go_region_held3 (fun w' => w'.cell? ⟨rb, 0, none⟩ = some (.slice (some ⟨tg, 0, none⟩) L.length tc) ∧ w'.cell? ⟨rb, 1, none⟩ = some (.int .i64 i) ∧ w'.cell? ⟨tg, i * 4, none⟩ = some (.int .u8 5) ∧ w'.cell? ⟨tg, i * 4 + 1, none⟩ = some (.string (tokT L i)) ∧ w'.cell? ⟨tg, i * 4 + 2, none⟩ = some (.int .i64 (tokN L i)) ∧ w'.cell? ⟨tg, i * 4 + 3, none⟩ = some (.int .i64 (tokA L i))) (go_keep) (fail)
      | go_region_held3 (fun w' => w'.cell? ⟨rb, 0, none⟩ = some (.slice (some ⟨tg, 0, none⟩) L.length tc) ∧ w'.cell? ⟨rb, 1, none⟩ = some (.int .i64 i) ∧ w'.cell? ⟨tg, i * 4, none⟩ = some (.int .u8 6) ∧ w'.cell? ⟨tg, i * 4 + 1, none⟩ = some (.string (tokT L i)) ∧ w'.cell? ⟨tg, i * 4 + 2, none⟩ = some (.int .i64 (tokN L i)) ∧ w'.cell? ⟨tg, i * 4 + 3, none⟩ = some (.int .i64 (tokA L i))) (go_keep) (fail)
      | go_region_held3 (fun w' => w'.cell? ⟨rb, 0, none⟩ = some (.slice (some ⟨tg, 0, none⟩) L.length tc) ∧ w'.cell? ⟨rb, 1, none⟩ = some (.int .i64 i) ∧ w'.cell? ⟨tg, i * 4, none⟩ = some (.int .u8 7) ∧ w'.cell? ⟨tg, i * 4 + 1, none⟩ = some (.string (tokT L i)) ∧ w'.cell? ⟨tg, i * 4 + 2, none⟩ = some (.int .i64 (tokN L i)) ∧ w'.cell? ⟨tg, i * 4 + 3, none⟩ = some (.int .i64 (tokA L i))) (go_keep) (fail)
      | go_region_held3 (fun w' => w'.cell? ⟨rb, 0, none⟩ = some (.slice (some ⟨tg, 0, none⟩) L.length tc) ∧ w'.cell? ⟨rb, 1, none⟩ = some (.int .i64 i) ∧ w'.cell? ⟨tg, i * 4, none⟩ = some (.int .u8 8) ∧ w'.cell? ⟨tg, i * 4 + 1, none⟩ = some (.string (tokT L i)) ∧ w'.cell? ⟨tg, i * 4 + 2, none⟩ = some (.int .i64 (tokN L i)) ∧ w'.cell? ⟨tg, i * 4 + 3, none⟩ = some (.int .i64 (tokA L i))) (go_keep) (fail)
    go_wp2_with fail
    refine (rcount_bad L _ rb tg tc i o m 1 (by exact halloc (halloc HP.out _) _) (by exact (HT.out.alloc _).alloc _) HI.out hl hne hcap (by omega)).mono ?_
    rintro e w1 ⟨rfl, g, hg, hp1, hg1, hu1⟩
    have hgg : w.heap.size + 1 < g := by have h0 := hg; simp at h0; omega
    have HG := Lib.hid hg1
    clear hg1 hg
    have ha := hu1.heap (k := w.heap.size) (by exact alloc1 _ _ _) (by show ¬ _ = rb; omega)
    have hc := hu1.heap (k := w.heap.size + 1) (by exact alloc2 _ _ _) (by show ¬ _ = rb; omega)
    have hsz1 := hu1.size
    have HU := Lib.hid ((Upd.refl (fun b => b = rb) w).trans' ((((Upd.refl (fun b => b = rb) w).alloc _).drew).alloc _ |>.trans hu1) (fun _ _ x => x))
    clear z0 z1 z2 z3 z4 zf0 zf1 zf2 zf3 zf4 t0 t1 t2 t3 hu1
    obtain ⟨y0, y1, y2, y3, y4, yf0, yf1, yf2, yf3, yf4⟩ := rblk hp1
    obtain ⟨⟨a0, a1, a2, a3, a4⟩, af⟩ := blk5 ha
    obtain ⟨c0, c1, c2, c3, cf0, cf1, cf2, cf3⟩ := blk4f hc
    have HP1 := Lib.hid hp1
    have HA := Lib.hid ha
    clear hp1 ha hc
    go_wp2_with fail
    have hnn : w.heap.size ≠ rb := by omega
    refine bodyPost_ret (results_cell1 rfl _ _ w.heap.size 58 #[_, _, _, _, _] _ rfl (by exact bset5 (bother HA.out hnn _)) Try.underlying58 rfl size58) rfl ⟨Dat.mk _ _ _ [] false, .slice none 0 0, [], (i : Int) + 1, o, (m + 1 : Nat), g, rfl, by omega, ?_, ?_, ?_, ?_, by simp, by simp, by have := HI.out; simp only [Dat.kids, List.length_nil]; omega⟩
    · exact bother5 (hnn.symm) ((rpar_set HP1.out).1 _)
    · exact bother5 (by omega) (bother HG.out (by omega) _)
    · exact upd5 (Nat.le_refl _) (HU.out.set rfl _)
    · exact Own.nil _ _

set_option maxHeartbeats 2000000 in
theorem rdatum_form (L : List Tok) (w : World) (rb tg tc i : Nat) (o m : Nat) (hp : RPar w rb tg L.length tc i o m (.pointer none)) (ht : Toks w tg L) (hi : i < L.length) (hl : (L.length : Int) ≤ 1048577) (hne : tg ≠ rb) (hk : tokK L i = 2 ∨ tokK L i = 4 ∨ tokK L i = 9) :
    Calls Try.prog 51 #[.pointer (some ⟨rb, 0, none⟩)] w (RDBad w rb tg L.length tc i 60 (tokA L i)) := by
  obtain ⟨z0, z1, z2, z3, z4, zf0, zf1, zf2, zf3, zf4⟩ := rblk hp
  obtain ⟨t0, t1, t2, t3⟩ := tok_kind ht hi
  have i0 : (0 : Int) ≤ i := by omega
  have i1 : (i : Int) < L.length := by omega
  have hpl := hp.lt
  have htl := ht.1
  have HP := Lib.hid hp
  have HT := Lib.hid ht
  have HI := Lib.hid hi
  clear hp ht hi
  generalize tokK L i = k at *
  rcases hk with rfl | rfl | rfl
  all_goals
    go_enter Try.func51, Try.ntmps51
    go_wp2_with fail
    first
      | go_region_held3 (fun w' => w'.cell? ⟨rb, 0, none⟩ = some (.slice (some ⟨tg, 0, none⟩) L.length tc) ∧ w'.cell? ⟨rb, 1, none⟩ = some (.int .i64 i) ∧ w'.cell? ⟨tg, i * 4, none⟩ = some (.int .u8 2) ∧ w'.cell? ⟨tg, i * 4 + 1, none⟩ = some (.string (tokT L i)) ∧ w'.cell? ⟨tg, i * 4 + 2, none⟩ = some (.int .i64 (tokN L i)) ∧ w'.cell? ⟨tg, i * 4 + 3, none⟩ = some (.int .i64 (tokA L i))) (go_keep) (fail)
      | go_region_held3 (fun w' => w'.cell? ⟨rb, 0, none⟩ = some (.slice (some ⟨tg, 0, none⟩) L.length tc) ∧ w'.cell? ⟨rb, 1, none⟩ = some (.int .i64 i) ∧ w'.cell? ⟨tg, i * 4, none⟩ = some (.int .u8 4) ∧ w'.cell? ⟨tg, i * 4 + 1, none⟩ = some (.string (tokT L i)) ∧ w'.cell? ⟨tg, i * 4 + 2, none⟩ = some (.int .i64 (tokN L i)) ∧ w'.cell? ⟨tg, i * 4 + 3, none⟩ = some (.int .i64 (tokA L i))) (go_keep) (fail)
      | go_region_held3 (fun w' => w'.cell? ⟨rb, 0, none⟩ = some (.slice (some ⟨tg, 0, none⟩) L.length tc) ∧ w'.cell? ⟨rb, 1, none⟩ = some (.int .i64 i) ∧ w'.cell? ⟨tg, i * 4, none⟩ = some (.int .u8 9) ∧ w'.cell? ⟨tg, i * 4 + 1, none⟩ = some (.string (tokT L i)) ∧ w'.cell? ⟨tg, i * 4 + 2, none⟩ = some (.int .i64 (tokN L i)) ∧ w'.cell? ⟨tg, i * 4 + 3, none⟩ = some (.int .i64 (tokA L i))) (go_keep) (fail)
    go_wp2_with fail
    refine (rfail_bad L _ rb tg tc i o m 60 (by exact halloc (halloc HP.out _) _) (by exact (HT.out.alloc _).alloc _) HI.out hl hne).mono ?_
    rintro e w1 ⟨rfl, g, hg, hp1, hg1, hu1⟩
    have hgg : w.heap.size + 1 < g := by have h0 := hg; simp at h0; omega
    clear hg
    have ha := hu1.heap (k := w.heap.size) (by exact alloc1 _ _ _) (by show ¬ _ = rb; omega)
    have hsz1 := hu1.size
    have HU := Lib.hid ((Upd.refl (fun b => b = rb) w).trans' ((((Upd.refl (fun b => b = rb) w).alloc _).drew).alloc _ |>.trans hu1) (fun _ _ x => x))
    clear z0 z1 z2 z3 z4 zf0 zf1 zf2 zf3 zf4 t0 t1 t2 t3 hu1
    obtain ⟨⟨a0, a1, a2, a3, a4⟩, af⟩ := blk5 ha
    have HP1 := Lib.hid hp1
    have HG := Lib.hid hg1
    have HA := Lib.hid ha
    clear hp1 ha hg1
    go_wp2_with fail
    have hnn : w.heap.size ≠ rb := by omega
    refine bodyPost_ret (results_cell1 rfl _ _ w.heap.size 58 #[_, _, _, _, _] _ rfl (by exact bset5 HA.out) Try.underlying58 rfl size58) rfl ⟨zDat, .slice none 0 0, [], i, o, m, g, rfl, by omega, bother5 (hnn.symm) HP1.out, bother5 (by omega) HG.out, ?_, Own.nil _ _, by simp, by simp, by have := HI.out; simp only [zDat, Dat.kids, List.length_nil]; omega⟩
    exact upd5 (Nat.le_refl _) HU.out
end Go.Proofs.Ytnnjhafjcdjobaa

namespace Go.Proofs.Ytnnjhafjcdjobaa
open Go.RowKit
set_option linter.unusedVariables false
set_option linter.unusedSimpArgs false

set_option maxHeartbeats 1000000 in
theorem rdatum_open_ok (L : List Tok) (w : World) (rb tg tc i : Nat) (o m : Nat) (hp : RPar w rb tg L.length tc i o m (.pointer none)) (ht : Toks w tg L) (hi : i < L.length) (hl : (L.length : Int) ≤ 1048577) (hne : tg ≠ rb) (hk : tokK L i = 1) (d : Dat) (i' m' : Nat)
    (hc : ∀ w, RPar w rb tg L.length tc i o m (.pointer none) → Toks w tg L → Calls Try.prog 96 #[.pointer (some ⟨rb, 0, none⟩)] w (RDOk w rb tg L.length tc d i' o m')) :
    Calls Try.prog 51 #[.pointer (some ⟨rb, 0, none⟩)] w (RDOk w rb tg L.length tc d i' o m') := by
  have HC := Lib.hid hc
  clear hc
  obtain ⟨z0, z1, z2, z3, z4, zf0, zf1, zf2, zf3, zf4⟩ := rblk hp
  obtain ⟨t0, t1, t2, t3⟩ := tok_kind ht hi
  rw [hk] at t0
  have i0 : (0 : Int) ≤ i := by omega
  have i1 : (i : Int) < L.length := by omega
  have hpl := hp.lt
  have htl := ht.1
  have HP := Lib.hid hp
  have HT := Lib.hid ht
  have HI := Lib.hid hi
  clear hp ht hi hk
  go_enter Try.func51, Try.ntmps51
  go_wp2_with fail
  go_region_held3 (fun w' => w'.cell? ⟨rb, 0, none⟩ = some (.slice (some ⟨tg, 0, none⟩) L.length tc) ∧ w'.cell? ⟨rb, 1, none⟩ = some (.int .i64 i) ∧ w'.cell? ⟨tg, i * 4, none⟩ = some (.int .u8 1) ∧ w'.cell? ⟨tg, i * 4 + 1, none⟩ = some (.string (tokT L i)) ∧ w'.cell? ⟨tg, i * 4 + 2, none⟩ = some (.int .i64 (tokN L i)) ∧ w'.cell? ⟨tg, i * 4 + 3, none⟩ = some (.int .i64 (tokA L i))) (go_keep) (fail)
  go_wp2_with fail
  refine (HC.out _ (by exact halloc (halloc HP.out _) _) (by exact (HT.out.alloc _).alloc _)).mono ?_
  rintro e w2 ⟨kv, bs, rfl, hp2, hu2, hw2, hnd⟩
  have ha2 := hu2.heap (k := w.heap.size) (by exact alloc1 _ _ _) (by show ¬ _ = rb; omega)
  have HU := Lib.hid ((Upd.refl (fun b => b = rb) w).trans' ((((Upd.refl (fun b => b = rb) w).alloc _).drew).alloc _ |>.trans hu2) (fun _ _ x => x))
  have hsz2 := hu2.size
  clear z0 z1 z2 z3 z4 zf0 zf1 zf2 zf3 zf4 t0 t1 t2 t3 hu2
  obtain ⟨⟨a0, a1, a2, a3, a4⟩, af⟩ := blk5 ha2
  obtain ⟨kA, kC, rfl, -⟩ := hw2.len
  have HP2 := Lib.hid hp2
  have HW2 := Lib.hid hw2
  have HA2 := Lib.hid ha2
  have HB := Lib.hid hw2.blocks
  have HN := Lib.hid hnd
  clear hp2 hw2 ha2 hnd
  unfold datV
  go_wp2_with fail
  have hnn : w.heap.size ≠ rb := by omega
  have hhb : w.heap.size ∉ bs := fun hx => by have := (HB.out _ hx).1; simp at this; omega
  refine bodyPost_ret (results_cell1 rfl _ _ w.heap.size 58 #[_, _, _, _, _] _ rfl (by exact bset5 HA2.out) Try.underlying58 rfl size58) rfl ⟨_, bs, rfl, ?_, ?_, ?_, HN.out⟩
  · exact bother5 hnn.symm HP2.out
  · exact upd5 (Nat.le_refl _) HU.out
  · exact (HW2.out.mono (base' := w.heap.size) (by simp <;> omega)).set5 hhb

set_option maxHeartbeats 1000000 in
theorem rdatum_open_bad (L : List Tok) (w : World) (rb tg tc i : Nat) (o m : Nat) (hp : RPar w rb tg L.length tc i o m (.pointer none)) (ht : Toks w tg L) (hi : i < L.length) (hl : (L.length : Int) ≤ 1048577) (hne : tg ≠ rb) (hk : tokK L i = 1) (er ea : Int)
    (hc : ∀ w, RPar w rb tg L.length tc i o m (.pointer none) → Toks w tg L → Calls Try.prog 96 #[.pointer (some ⟨rb, 0, none⟩)] w (RDBad w rb tg L.length tc i er ea)) :
    Calls Try.prog 51 #[.pointer (some ⟨rb, 0, none⟩)] w (RDBad w rb tg L.length tc i er ea) := by
  have HC := Lib.hid hc
  clear hc
  obtain ⟨z0, z1, z2, z3, z4, zf0, zf1, zf2, zf3, zf4⟩ := rblk hp
  obtain ⟨t0, t1, t2, t3⟩ := tok_kind ht hi
  rw [hk] at t0
  have i0 : (0 : Int) ≤ i := by omega
  have i1 : (i : Int) < L.length := by omega
  have hpl := hp.lt
  have htl := ht.1
  have HP := Lib.hid hp
  have HT := Lib.hid ht
  have HI := Lib.hid hi
  clear hp ht hi hk
  go_enter Try.func51, Try.ntmps51
  go_wp2_with fail
  go_region_held3 (fun w' => w'.cell? ⟨rb, 0, none⟩ = some (.slice (some ⟨tg, 0, none⟩) L.length tc) ∧ w'.cell? ⟨rb, 1, none⟩ = some (.int .i64 i) ∧ w'.cell? ⟨tg, i * 4, none⟩ = some (.int .u8 1) ∧ w'.cell? ⟨tg, i * 4 + 1, none⟩ = some (.string (tokT L i)) ∧ w'.cell? ⟨tg, i * 4 + 2, none⟩ = some (.int .i64 (tokN L i)) ∧ w'.cell? ⟨tg, i * 4 + 3, none⟩ = some (.int .i64 (tokA L i))) (go_keep) (fail)
  go_wp2_with fail
  refine (HC.out _ (by exact halloc (halloc HP.out _) _) (by exact (HT.out.alloc _).alloc _)).mono ?_
  rintro e w2 ⟨d, kv, bs, q1, q2, q3, g, rfl, hgs, hp2, hg2, hu2, hw2, hnd, hgn, hkl⟩
  have HKL := Lib.hid hkl
  clear hkl
  have hgs2 : w.heap.size + 1 + 1 ≤ g := by have h0 := hgs; simp at h0; omega
  clear hgs
  have ha2 := hu2.heap (k := w.heap.size) (by exact alloc1 _ _ _) (by show ¬ _ = rb; omega)
  have HU := Lib.hid ((Upd.refl (fun b => b = rb) w).trans' ((((Upd.refl (fun b => b = rb) w).alloc _).drew).alloc _ |>.trans hu2) (fun _ _ x => x))
  have hsz2 := hu2.size
  clear z0 z1 z2 z3 z4 zf0 zf1 zf2 zf3 zf4 t0 t1 t2 t3 hu2
  obtain ⟨⟨a0, a1, a2, a3, a4⟩, af⟩ := blk5 ha2
  obtain ⟨kA, kC, rfl, -⟩ := hw2.len
  have HP2 := Lib.hid hp2
  have HW2 := Lib.hid hw2
  have HA2 := Lib.hid ha2
  have HB := Lib.hid hw2.blocks
  have HN := Lib.hid hnd
  have HG := Lib.hid hg2
  have HGN := Lib.hid hgn
  clear hg2 hgn
  clear hp2 hw2 ha2 hnd
  unfold datV
  go_wp2_with fail
  have hnn : w.heap.size ≠ rb := by omega
  have hhb : w.heap.size ∉ bs := fun hx => by have := (HB.out _ hx).1; simp at this; omega
  refine bodyPost_ret (results_cell1 rfl _ _ w.heap.size 58 #[_, _, _, _, _] _ rfl (by exact bset5 HA2.out) Try.underlying58 rfl size58) rfl ⟨d, _, bs, q1, q2, q3, g, rfl, by omega, ?_, ?_, ?_, ?_, HN.out, HGN.out, HKL.out⟩
  · exact bother5 hnn.symm HP2.out
  · exact bother5 (by omega) HG.out
  · exact upd5 (Nat.le_refl _) HU.out
  · exact (HW2.out.mono (base' := w.heap.size) (by simp <;> omega)).set5 hhb
end Go.Proofs.Ytnnjhafjcdjobaa

namespace Go.Proofs.Ytnnjhafjcdjobaa
open Go.RowKit
set_option linter.unusedVariables false
set_option linter.unusedSimpArgs false

set_option maxHeartbeats 1000000 in
theorem rdatum_quote_full (L : List Tok) (w : World) (rb tg tc i : Nat) (o m : Nat) (hp : RPar w rb tg L.length tc i o m (.pointer none)) (ht : Toks w tg L) (hi : i < L.length) (hl : (L.length : Int) ≤ 1048577) (hne : tg ≠ rb) (hk : tokK L i = 3) (z2 z3 er ea : Int)
    (hc : ∀ w, RPar w rb tg L.length tc i o m (.pointer none) → Toks w tg L → Calls Try.prog 97 #[.pointer (some ⟨rb, 0, none⟩), .int .i64 2] w fun e w' => e = .returned (.tuple #[]) ∧ RBad w rb tg L.length tc i z2 z3 er ea w') :
    Calls Try.prog 51 #[.pointer (some ⟨rb, 0, none⟩)] w (RDBad w rb tg L.length tc i er ea) := by
  have HC := Lib.hid hc
  clear hc
  obtain ⟨z0, z1, z2', z3', z4, zf0, zf1, zf2, zf3, zf4⟩ := rblk hp
  obtain ⟨t0, t1, t2, t3⟩ := tok_kind ht hi
  rw [hk] at t0
  have i0 : (0 : Int) ≤ i := by omega
  have i1 : (i : Int) < L.length := by omega
  have hpl := hp.lt
  have htl := ht.1
  have HP := Lib.hid hp
  have HT := Lib.hid ht
  have HI := Lib.hid hi
  clear hp ht hi hk
  go_enter Try.func51, Try.ntmps51
  go_wp2_with fail
  go_region_held3 (fun w' => w'.cell? ⟨rb, 0, none⟩ = some (.slice (some ⟨tg, 0, none⟩) L.length tc) ∧ w'.cell? ⟨rb, 1, none⟩ = some (.int .i64 i) ∧ w'.cell? ⟨tg, i * 4, none⟩ = some (.int .u8 3) ∧ w'.cell? ⟨tg, i * 4 + 1, none⟩ = some (.string (tokT L i)) ∧ w'.cell? ⟨tg, i * 4 + 2, none⟩ = some (.int .i64 (tokN L i)) ∧ w'.cell? ⟨tg, i * 4 + 3, none⟩ = some (.int .i64 (tokA L i))) (go_keep) (fail)
  go_wp2_with fail
  refine (HC.out _ (by exact halloc (halloc HP.out _) _) (by exact (HT.out.alloc _).alloc _)).mono ?_
  rintro e w1 ⟨rfl, g, hg, hp1, hg1, hu1⟩
  have hgg : w.heap.size + 1 < g := by have h0 := hg; simp at h0; omega
  clear hg
  have ha := hu1.heap (k := w.heap.size) (by exact alloc1 _ _ _) (by show ¬ _ = rb; omega)
  have hsz1 := hu1.size
  have HU := Lib.hid ((Upd.refl (fun b => b = rb) w).trans' ((((Upd.refl (fun b => b = rb) w).alloc _).drew).alloc _ |>.trans hu1) (fun _ _ x => x))
  clear z0 z1 z2' z3' z4 zf0 zf1 zf2 zf3 zf4 t0 t1 t2 t3 hu1
  obtain ⟨y0, y1, y2, y3, y4, yf0, yf1, yf2, yf3, yf4⟩ := rblk hp1
  obtain ⟨⟨a0, a1, a2, a3, a4⟩, af⟩ := blk5 ha
  have HP1 := Lib.hid hp1
  have HG := Lib.hid hg1
  have HA := Lib.hid ha
  clear hp1 ha hg1
  go_wp2_with fail
  have hnn : w.heap.size ≠ rb := by omega
  refine bodyPost_ret (results_cell1 rfl _ _ w.heap.size 58 #[_, _, _, _, _] _ rfl (by exact bset5 (bother HA.out hnn _)) Try.underlying58 rfl size58) rfl ⟨zDat, .slice none 0 0, [], (i : Int) + 1, z2, z3, g, rfl, by omega, bother5 (hnn.symm) ((rpar_set HP1.out).1 _), bother5 (by omega) (bother HG.out (by omega) _), ?_, Own.nil _ _, by simp, by simp, by have := HI.out; simp only [zDat, Dat.kids, List.length_nil]; omega⟩
  exact upd5 (Nat.le_refl _) (HU.out.set rfl _)
end Go.Proofs.Ytnnjhafjcdjobaa

namespace Go.Proofs.Ytnnjhafjcdjobaa
open Go.RowKit
set_option linter.unusedVariables false
set_option linter.unusedSimpArgs false

set_option maxHeartbeats 1000000 in
theorem rdatum_quote_ok (L : List Tok) (w : World) (rb tg tc i : Nat) (o m : Nat) (hp : RPar w rb tg L.length tc i o m (.pointer none)) (ht : Toks w tg L) (hi : i < L.length) (hl : (L.length : Int) ≤ 1048577) (hne : tg ≠ rb) (hk : tokK L i = 3) (ho : o < 100) (h : m + 2 ≤ 10000) (d : Dat) (i' m' : Nat)
    (hc : ∀ w, RPar w rb tg L.length tc (i + 1 : Nat) (o + 1 : Nat) (m + 2 : Nat) (.pointer none) → Toks w tg L → Calls Try.prog 51 #[.pointer (some ⟨rb, 0, none⟩)] w (RDOk w rb tg L.length tc d i' (o + 1) m')) :
    Calls Try.prog 51 #[.pointer (some ⟨rb, 0, none⟩)] w (RDOk w rb tg L.length tc (lst [sym quoteT, d] false) i' o m') := by
  have HC := Lib.hid hc
  clear hc
  obtain ⟨z0, z1, z2, z3, z4, zf0, zf1, zf2, zf3, zf4⟩ := rblk hp
  obtain ⟨t0, t1, t2, t3⟩ := tok_kind ht hi
  rw [hk] at t0
  have i0 : (0 : Int) ≤ i := by omega
  have i1 : (i : Int) < L.length := by omega
  have hpl := hp.lt
  have htl := ht.1
  have HP := Lib.hid hp
  have HT := Lib.hid ht
  have HI := Lib.hid hi
  clear hp ht hi hk
  go_enter Try.func51, Try.ntmps51
  go_wp2_with fail
  go_region_held3 (fun w' => w'.cell? ⟨rb, 0, none⟩ = some (.slice (some ⟨tg, 0, none⟩) L.length tc) ∧ w'.cell? ⟨rb, 1, none⟩ = some (.int .i64 i) ∧ w'.cell? ⟨tg, i * 4, none⟩ = some (.int .u8 3) ∧ w'.cell? ⟨tg, i * 4 + 1, none⟩ = some (.string (tokT L i)) ∧ w'.cell? ⟨tg, i * 4 + 2, none⟩ = some (.int .i64 (tokN L i)) ∧ w'.cell? ⟨tg, i * 4 + 3, none⟩ = some (.int .i64 (tokA L i))) (go_keep) (fail)
  go_wp2_with fail
  refine (ropens_ok _ rb tg L.length tc i o m 2 (by exact halloc (halloc HP.out _) _) h ho).mono ?_
  rintro e w1 ⟨rfl, hp1, hu1⟩
  have ha := hu1.heap (k := w.heap.size) (by exact alloc1 _ _ _) (by show ¬ _ = rb; omega)
  have HU1 := Lib.hid ((Upd.refl (fun b => b = rb) w).trans' ((((Upd.refl (fun b => b = rb) w).alloc _).drew).alloc _ |>.trans hu1) (fun _ _ x => x))
  have HT1 := Lib.hid (HT.out.upd HU1.out hne)
  obtain ⟨x0, x1, x2, x3, x4, xf0, xf1, xf2, xf3, xf4⟩ := rblk hp1
  have HP1 := Lib.hid hp1
  have hwa := (Array.getElem?_eq_some_iff.1 ha).1
  have HA := Lib.hid ha
  clear z0 z1 z2 z3 z4 zf0 zf1 zf2 zf3 zf4 t0 t1 t2 t3 hu1 hp1 ha
  go_wp2_with fail
  have hp3 := (rpar_set HP1.out).1 ((i : Int) + 1)
  have HU1 := Lib.hid (HU1.out.set (b := rb) (i := 1) rfl (.int .i64 ((i : Int) + 1)))
  refine (HC.out _ (by simpa using hp3) (HT.out.upd HU1.out hne)).mono ?_
  rintro e w2 ⟨kv, bs, rfl, hp2, hu2, hw2, hnd⟩
  obtain ⟨y0, y1, y2, y3, y4, yf0, yf1, yf2, yf3, yf4⟩ := rblk hp2
  have ha2 := hu2.heap (k := w.heap.size) (by exact bother HA.out (by omega) _) (by show ¬ _ = rb; omega)
  obtain ⟨⟨a0, a1, a2, a3, a4⟩, af⟩ := blk5 ha2
  obtain ⟨kA, kC, rfl, -⟩ := hw2.len
  have hwb := hu2.size
  have hwb0 : w1.heap.size ≤ w2.heap.size := by simpa using hwb
  clear x0 x1 x2 x3 x4 xf0 xf1 xf2 xf3 xf4
  have hpl1 : rb < w1.heap.size := by omega
  have hpl2 : rb < w2.heap.size := by omega
  have hwa2 : w.heap.size < w2.heap.size := by omega
  have HP2 := Lib.hid hp2
  have HU2 := Lib.hid (HU1.out.trans hu2)
  have HW2 := Lib.hid hw2
  have HA2 := Lib.hid ha2
  have HB := Lib.hid hw2.blocks
  have HN := Lib.hid hnd
  clear hp2 hu2 hw2 ha2 hnd
  unfold datV
  go_wp2_with fail
  have hne2 : w.heap.size ≠ rb := by omega
  have hm1 := HU1.out.size
  have hse : (w1.setCell ⟨rb, 1, none⟩ (.int .i64 ((i : Int) + 1))).heap.size = w1.heap.size := by simp
  have hrb : rb ∉ bs := fun hx => by have := (HB.out rb hx).1; omega
  have hhb : w.heap.size ∉ bs := fun hx => by have := (HB.out _ hx).1; omega
  refine bodyPost_ret (results_cell1 rfl _ _ w.heap.size 58 #[_, _, _, _, _] _ rfl (by exact halloc (halloc (bset5 (bother HA2.out hne2 _)) _) _) Try.underlying58 rfl size58) rfl ⟨_, [w2.heap.size + 1] ++ ([] ++ (bs ++ [])), rfl, ?_, ?_, ?_, ?_⟩
  · exact halloc (halloc (bother5 hne2.symm ((rpar_set HP2.out).2.1 _)) _) _
  · exact ((upd5 (Nat.le_refl _) (HU2.out.set rfl _)).alloc _).alloc _
  · have hw3 := ((((HW2.out.mono (base' := w.heap.size) (by omega)).setCell (i := 2) hrb (.int .i64 (o : Int))).set5 (u0 := .int .u8 5) (u1 := .int .i64 0) (u2 := .string ⟨#[]⟩) (u3 := .slice (some ⟨w2.heap.size + 1, 0, none⟩) 2 2) (u4 := .bool false) hhb).alloc (.cells #[.int .u8 d.k, .int .i64 d.n, .string d.t, .slice kA d.kids.length kC, .bool d.dot] 58)).alloc
      (.cells #[.int .u8 2, .int .i64 0, .string ⟨#[113, 117, 111, 116, 101]⟩, .slice none 0 0, .bool false, .int .u8 d.k, .int .i64 d.n, .string d.t, .slice kA d.kids.length kC, .bool d.dot] 58)
    refine Own.mk (.slice (some ⟨w2.heap.size + 1, 0, none⟩) 2 2) [⟨sym quoteT, .slice none 0 0, []⟩, ⟨d, .slice kA d.kids.length kC, bs⟩] ⟨rfl, .inr ⟨w2.heap.size + 1, 2, #[.int .u8 2, .int .i64 0, .string ⟨#[113, 117, 111, 116, 101]⟩, .slice none 0 0, .bool false, .int .u8 d.k, .int .i64 d.n, .string d.t, .slice kA d.kids.length kC, .bool d.dot], rfl, by omega, ?_, Nat.le_refl _, by unfold maxLen; omega, rfl, rfl⟩⟩ ?_
    · have := alloc2 (((((((w2.setCell ⟨rb, 2, none⟩ (.int .i64 (o : Int))).setCell ⟨w.heap.size, 0, none⟩ (.int .u8 5)).setCell ⟨w.heap.size, 1, none⟩ (.int .i64 0)).setCell ⟨w.heap.size, 2, none⟩ (.string ⟨#[]⟩)).setCell ⟨w.heap.size, 3, none⟩ (.slice (some ⟨w2.heap.size + 1, 0, none⟩) 2 2)).setCell ⟨w.heap.size, 4, none⟩ (.bool false))) (.cells #[.int .u8 d.k, .int .i64 d.n, .string d.t, .slice kA d.kids.length kC, .bool d.dot] 58)
        (.cells #[.int .u8 2, .int .i64 0, .string ⟨#[113, 117, 111, 116, 101]⟩, .slice none 0 0, .bool false, .int .u8 d.k, .int .i64 d.n, .string d.t, .slice kA d.kids.length kC, .bool d.dot] 58)
      simpa [World.setCell] using this
    · intro e he
      rcases List.mem_cons.1 he with rfl | he
      · exact Own.nil _ _
      · rw [List.mem_singleton.1 he]; exact hw3
  · rw [List.nil_append, List.append_nil]
    refine List.nodup_cons.2 ⟨fun hx => ?_, HN.out⟩
    have := (HB.out _ hx).2
    omega

end Go.Proofs.Ytnnjhafjcdjobaa

namespace Go.Proofs.Ytnnjhafjcdjobaa
open Go.RowKit
set_option linter.unusedVariables false
set_option linter.unusedSimpArgs false

set_option maxHeartbeats 1000000 in
theorem rdatum_quote_bad (L : List Tok) (w : World) (rb tg tc i : Nat) (o m : Nat) (hp : RPar w rb tg L.length tc i o m (.pointer none)) (ht : Toks w tg L) (hi : i < L.length) (hl : (L.length : Int) ≤ 1048577) (hne : tg ≠ rb) (hk : tokK L i = 3) (hil : i + 1 < L.length) (ho : o < 100) (h : m + 2 ≤ 10000) (er ea : Int)
    (hc : ∀ w, RPar w rb tg L.length tc (i + 1 : Nat) (o + 1 : Nat) (m + 2 : Nat) (.pointer none) → Toks w tg L → Calls Try.prog 51 #[.pointer (some ⟨rb, 0, none⟩)] w (RDBad w rb tg L.length tc (i + 1) er ea)) :
    Calls Try.prog 51 #[.pointer (some ⟨rb, 0, none⟩)] w (RDBad w rb tg L.length tc i er ea) := by
  have HC := Lib.hid hc
  clear hc
  have HKK := Lib.hid (show (lst [sym quoteT, zDat] false).kids.length + i ≤ L.length by simp only [lst, Dat.kids, List.length_cons, List.length_nil]; omega)
  clear hil
  obtain ⟨z0, z1, z2, z3, z4, zf0, zf1, zf2, zf3, zf4⟩ := rblk hp
  obtain ⟨t0, t1, t2, t3⟩ := tok_kind ht hi
  rw [hk] at t0
  have i0 : (0 : Int) ≤ i := by omega
  have i1 : (i : Int) < L.length := by omega
  have hpl := hp.lt
  have htl := ht.1
  have HP := Lib.hid hp
  have HT := Lib.hid ht
  have HI := Lib.hid hi
  clear hp ht hi hk
  go_enter Try.func51, Try.ntmps51
  go_wp2_with fail
  go_region_held3 (fun w' => w'.cell? ⟨rb, 0, none⟩ = some (.slice (some ⟨tg, 0, none⟩) L.length tc) ∧ w'.cell? ⟨rb, 1, none⟩ = some (.int .i64 i) ∧ w'.cell? ⟨tg, i * 4, none⟩ = some (.int .u8 3) ∧ w'.cell? ⟨tg, i * 4 + 1, none⟩ = some (.string (tokT L i)) ∧ w'.cell? ⟨tg, i * 4 + 2, none⟩ = some (.int .i64 (tokN L i)) ∧ w'.cell? ⟨tg, i * 4 + 3, none⟩ = some (.int .i64 (tokA L i))) (go_keep) (fail)
  go_wp2_with fail
  refine (ropens_ok _ rb tg L.length tc i o m 2 (by exact halloc (halloc HP.out _) _) h ho).mono ?_
  rintro e w1 ⟨rfl, hp1, hu1⟩
  have ha := hu1.heap (k := w.heap.size) (by exact alloc1 _ _ _) (by show ¬ _ = rb; omega)
  have HU1 := Lib.hid ((Upd.refl (fun b => b = rb) w).trans' ((((Upd.refl (fun b => b = rb) w).alloc _).drew).alloc _ |>.trans hu1) (fun _ _ x => x))
  have HT1 := Lib.hid (HT.out.upd HU1.out hne)
  obtain ⟨x0, x1, x2, x3, x4, xf0, xf1, xf2, xf3, xf4⟩ := rblk hp1
  have HP1 := Lib.hid hp1
  have hwa := (Array.getElem?_eq_some_iff.1 ha).1
  have HA := Lib.hid ha
  clear z0 z1 z2 z3 z4 zf0 zf1 zf2 zf3 zf4 t0 t1 t2 t3 hu1 hp1 ha
  go_wp2_with fail
  have hp3 := (rpar_set HP1.out).1 ((i : Int) + 1)
  have HU1 := Lib.hid (HU1.out.set (b := rb) (i := 1) rfl (.int .i64 ((i : Int) + 1)))
  refine (HC.out _ (by simpa using hp3) (HT.out.upd HU1.out hne)).mono ?_
  rintro e w2 ⟨d, kv, bs, q1, q2, q3, g, rfl, hgs, hp2, hg2, hu2, hw2, hnd, hgn, -⟩
  have hgs2 : w1.heap.size ≤ g := by simpa using hgs
  have hgl := (Array.getElem?_eq_some_iff.1 hg2).1
  have HG := Lib.hid hg2
  have HGN := Lib.hid hgn
  clear hgs hg2 hgn
  obtain ⟨y0, y1, y2, y3, y4, yf0, yf1, yf2, yf3, yf4⟩ := rblk hp2
  have ha2 := hu2.heap (k := w.heap.size) (by exact bother HA.out (by omega) _) (by show ¬ _ = rb; omega)
  obtain ⟨⟨a0, a1, a2, a3, a4⟩, af⟩ := blk5 ha2
  obtain ⟨kA, kC, rfl, -⟩ := hw2.len
  have hwb := hu2.size
  have hwb0 : w1.heap.size ≤ w2.heap.size := by simpa using hwb
  clear x0 x1 x2 x3 x4 xf0 xf1 xf2 xf3 xf4
  have hpl1 : rb < w1.heap.size := by omega
  have hpl2 : rb < w2.heap.size := by omega
  have hwa2 : w.heap.size < w2.heap.size := by omega
  have HP2 := Lib.hid hp2
  have HU2 := Lib.hid (HU1.out.trans hu2)
  have HW2 := Lib.hid hw2
  have HA2 := Lib.hid ha2
  have HB := Lib.hid hw2.blocks
  have HN := Lib.hid hnd
  clear hp2 hu2 hw2 ha2 hnd
  unfold datV
  go_wp2_with fail
  have hne2 : w.heap.size ≠ rb := by omega
  have hm1 := HU1.out.size
  have hse : (w1.setCell ⟨rb, 1, none⟩ (.int .i64 ((i : Int) + 1))).heap.size = w1.heap.size := by simp
  have hrb : rb ∉ bs := fun hx => by have := (HB.out rb hx).1; omega
  have hhb : w.heap.size ∉ bs := fun hx => by have := (HB.out _ hx).1; omega
  refine bodyPost_ret (results_cell1 rfl _ _ w.heap.size 58 #[_, _, _, _, _] _ rfl (by exact halloc (halloc (bset5 (bother HA2.out hne2 _)) _) _) Try.underlying58 rfl size58) rfl ⟨lst [sym quoteT, d] false, _, [w2.heap.size + 1] ++ ([] ++ (bs ++ [])), q1, wrap64 (q2 - 1), q3, g, rfl, by omega, ?_, ?_, ?_, ?_, ?_, ?_, HKK.out⟩
  · exact halloc (halloc (bother5 hne2.symm ((rpar_set HP2.out).2.1 _)) _) _
  · exact halloc (halloc (bother5 (by omega) (bother HG.out (by omega) _)) _) _
  · exact ((upd5 (Nat.le_refl _) (HU2.out.set rfl _)).alloc _).alloc _
  · have hw3 := ((((HW2.out.mono (base' := w.heap.size) (by omega)).setCell (i := 2) hrb (.int .i64 (wrap64 (q2 - 1)))).set5 (u0 := .int .u8 5) (u1 := .int .i64 0) (u2 := .string ⟨#[]⟩) (u3 := .slice (some ⟨w2.heap.size + 1, 0, none⟩) 2 2) (u4 := .bool false) hhb).alloc (.cells #[.int .u8 d.k, .int .i64 d.n, .string d.t, .slice kA d.kids.length kC, .bool d.dot] 58)).alloc
      (.cells #[.int .u8 2, .int .i64 0, .string ⟨#[113, 117, 111, 116, 101]⟩, .slice none 0 0, .bool false, .int .u8 d.k, .int .i64 d.n, .string d.t, .slice kA d.kids.length kC, .bool d.dot] 58)
    refine Own.mk (.slice (some ⟨w2.heap.size + 1, 0, none⟩) 2 2) [⟨sym quoteT, .slice none 0 0, []⟩, ⟨d, .slice kA d.kids.length kC, bs⟩] ⟨rfl, .inr ⟨w2.heap.size + 1, 2, #[.int .u8 2, .int .i64 0, .string ⟨#[113, 117, 111, 116, 101]⟩, .slice none 0 0, .bool false, .int .u8 d.k, .int .i64 d.n, .string d.t, .slice kA d.kids.length kC, .bool d.dot], rfl, by omega, ?_, Nat.le_refl _, by unfold maxLen; omega, rfl, rfl⟩⟩ ?_
    · have := alloc2 (((((((w2.setCell ⟨rb, 2, none⟩ (.int .i64 (wrap64 (q2 - 1)))).setCell ⟨w.heap.size, 0, none⟩ (.int .u8 5)).setCell ⟨w.heap.size, 1, none⟩ (.int .i64 0)).setCell ⟨w.heap.size, 2, none⟩ (.string ⟨#[]⟩)).setCell ⟨w.heap.size, 3, none⟩ (.slice (some ⟨w2.heap.size + 1, 0, none⟩) 2 2)).setCell ⟨w.heap.size, 4, none⟩ (.bool false))) (.cells #[.int .u8 d.k, .int .i64 d.n, .string d.t, .slice kA d.kids.length kC, .bool d.dot] 58)
        (.cells #[.int .u8 2, .int .i64 0, .string ⟨#[113, 117, 111, 116, 101]⟩, .slice none 0 0, .bool false, .int .u8 d.k, .int .i64 d.n, .string d.t, .slice kA d.kids.length kC, .bool d.dot] 58)
      simpa [World.setCell] using this
    · intro e he
      rcases List.mem_cons.1 he with rfl | he
      · exact Own.nil _ _
      · rw [List.mem_singleton.1 he]; exact hw3
  · rw [List.nil_append, List.append_nil]
    refine List.nodup_cons.2 ⟨fun hx => ?_, HN.out⟩
    have := (HB.out _ hx).2
    omega
  · have hgb := HGN.out
    simp only [List.nil_append, List.append_nil, List.singleton_append, List.mem_cons, not_or]
    exact ⟨by omega, hgb⟩
end Go.Proofs.Ytnnjhafjcdjobaa
