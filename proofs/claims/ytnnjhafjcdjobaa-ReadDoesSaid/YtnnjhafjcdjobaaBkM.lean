/- The book: a list of tokens is put into it; each has memory of its own. The book: data are put into it, with all lists within. -/
import Derived.Test.YtnnjhafjcdjobaaOwD
import Derived.Test.YtnnjhafjcdjobaaLyM
namespace Go.Proofs.Ytnnjhafjcdjobaa
open Go.RowKit
set_option linter.unusedVariables false
set_option linter.unusedSimpArgs false

theorem Bk.Rows.new {w w' : World} {B0 : Nat} {e : TypeId} {K G m : Nat} {vs : Nat → Value} {ns : Nat → Nat} {xs : Nat → List Value} (h : Bk.Rows w B0 e K G m vs ns xs) (hu : Upd (fun _ => False) w w') : Bk.Rows w' B0 e K G m vs ns xs :=
  ⟨fun j hj => hu.cell (h.row j hj) (fun x => x), fun j hj => hu.ownsRow (h.own j hj) (fun _ _ x => x), h.apart, h.noG⟩
/-- A book of lists of data. -/
structure BookAt (w : World) (B0 Bb m : Nat) (T : Value) (vs : Nat → Value) : Prop where
  box : w.heap[Bb]? = some (.cells #[.slice none 0 0, .slice none 0 0, .slice none 0 0, .slice none 0 0, .slice none 0 0, .slice none 0 0, .slice none 0 0, .slice none 0 0, .slice none 0 0, .slice none 0 0, .slice none 0 0, .slice none 0 0, T, .slice none 0 0, .slice none 0 0, .slice none 0 0, .slice none 0 0] 46 (0, 0))
  own : w.ownsRow B0 23 1 T m ((List.range m).map vs)
  ne : T.ownBlock ≠ some Bb
theorem blk17 {w : World} {b : Nat} {t : TypeId} {c : Array Value} (h : w.heap[b]? = some (.cells c t (0, 0))) (i : Nat) (v : Value) (hv : c[i]? = some v) : w.cell? ⟨b, i, none⟩ = some v ∧ w.frozen? ⟨b, i, none⟩ = false := by
  refine ⟨by simp [World.cell?, h, hv], by simp [World.frozen?, h]⟩
set_option maxRecDepth 100000 in
set_option maxHeartbeats 8000000 in
theorem own_calls {w : World} {B0 Bb G m cap : Nat} {vs : Nat → Value} {ns : Nat → Nat} {xs : Nat → List Value} (h : BookAt w B0 Bb m (.slice (some ⟨G, 0, none⟩) m cap) vs) (hR : Bk.Rows w B0 58 5 G m vs ns xs) (hG : B0 ≤ G ∧ G < w.heap.size) (hm : m ≤ 1000000) (hns : ∀ j, j < m → ns j ≤ 1048577) (hBb : ¬ B0 ≤ Bb) :
    Calls Try.prog 19 #[.pointer (some ⟨Bb, 0, none⟩)] w fun e w' => e = .returned (.bool true) ∧ Upd (fun b => B0 ≤ b) w w' := by
  have HB := Lib.hid h.box
  have x0 := (blk17 h.box 0 (.slice none 0 0) rfl).1
  have x1 := (blk17 h.box 1 (.slice none 0 0) rfl).1
  have x2 := (blk17 h.box 2 (.slice none 0 0) rfl).1
  have x3 := (blk17 h.box 3 (.slice none 0 0) rfl).1
  have x4 := (blk17 h.box 4 (.slice none 0 0) rfl).1
  have x5 := (blk17 h.box 5 (.slice none 0 0) rfl).1
  have x6 := (blk17 h.box 6 (.slice none 0 0) rfl).1
  have x7 := (blk17 h.box 7 (.slice none 0 0) rfl).1
  have x8 := (blk17 h.box 8 (.slice none 0 0) rfl).1
  have x9 := (blk17 h.box 9 (.slice none 0 0) rfl).1
  have x10 := (blk17 h.box 10 (.slice none 0 0) rfl).1
  have x11 := (blk17 h.box 11 (.slice none 0 0) rfl).1
  have x12 := (blk17 h.box 12 (.slice (some ⟨G, 0, none⟩) m cap) rfl).1
  have x13 := (blk17 h.box 13 (.slice none 0 0) rfl).1
  have x14 := (blk17 h.box 14 (.slice none 0 0) rfl).1
  have x15 := (blk17 h.box 15 (.slice none 0 0) rfl).1
  have x16 := (blk17 h.box 16 (.slice none 0 0) rfl).1
  have hBl := (Array.getElem?_eq_some_iff.1 h.box).1
  have HR := Lib.hid hR
  have HG := Lib.hid hG
  have HNS := Lib.hid hns
  clear h hR hG hns
  go_enter Try.func19, Try.ntmps19
  go_wp2_with fail
  refine (own56_nil _).mono ?_
  rintro e wq ⟨rfl, hw⟩
  replace hw := hw.symm
  subst hw
  go_wp2_with fail
  refine (own57_nil _).mono ?_
  rintro e wq ⟨rfl, hw⟩
  replace hw := hw.symm
  subst hw
  go_wp2_with fail
  refine (own58_nil _).mono ?_
  rintro e wq ⟨rfl, hw⟩
  replace hw := hw.symm
  subst hw
  go_wp2_with fail
  refine (own59_nil _).mono ?_
  rintro e wq ⟨rfl, hw⟩
  replace hw := hw.symm
  subst hw
  go_wp2_with fail
  refine (own60_nil _).mono ?_
  rintro e wq ⟨rfl, hw⟩
  replace hw := hw.symm
  subst hw
  go_wp2_with fail
  refine (own61_nil _).mono ?_
  rintro e wq ⟨rfl, hw⟩
  replace hw := hw.symm
  subst hw
  go_wp2_with fail
  refine (own62_nil _).mono ?_
  rintro e wq ⟨rfl, hw⟩
  replace hw := hw.symm
  subst hw
  go_wp2_with fail
  refine (own63_nil _).mono ?_
  rintro e wq ⟨rfl, hw⟩
  replace hw := hw.symm
  subst hw
  go_wp2_with fail
  refine (own64_nil _).mono ?_
  rintro e wq ⟨rfl, hw⟩
  replace hw := hw.symm
  subst hw
  go_wp2_with fail
  refine (own65_nil _).mono ?_
  rintro e wq ⟨rfl, hw⟩
  replace hw := hw.symm
  subst hw
  go_wp2_with fail
  refine (own66_nil _).mono ?_
  rintro e wq ⟨rfl, hw⟩
  replace hw := hw.symm
  subst hw
  go_wp2_with fail
  refine (own67_nil _).mono ?_
  rintro e wq ⟨rfl, hw⟩
  replace hw := hw.symm
  subst hw
  go_wp2_with fail
  refine (own68_nil _).mono ?_
  rintro e w2 ⟨rfl, hu2⟩
  have HB2 := Lib.hid (hu2.heap HB.out (fun x => x))
  have HR2 := Lib.hid (HR.out.new hu2)
  have HG2 := Lib.hid (show B0 ≤ G ∧ G < w2.heap.size from ⟨HG.out.1, Nat.lt_of_lt_of_le HG.out.2 hu2.size⟩)
  have HU2 := Lib.hid hu2
  clear hu2 x0 x1 x2 x3 x4 x5 x6 x7 x8 x9 x10 x11 x12 x13 x14 x15 x16
  have x12 := (blk17 HB2.out 12 (.slice (some ⟨G, 0, none⟩) m cap) rfl).1
  have x13 := (blk17 HB2.out 13 (.slice none 0 0) rfl).1
  have x14 := (blk17 HB2.out 14 (.slice none 0 0) rfl).1
  have x15 := (blk17 HB2.out 15 (.slice none 0 0) rfl).1
  have x16 := (blk17 HB2.out 16 (.slice none 0 0) rfl).1
  go_wp2_with fail
  refine (ownData_calls HR2.out HG2.out hm HNS.out).mono ?_
  rintro e w3 ⟨rfl, hu3⟩
  have HB3 := Lib.hid (hu3.heap HB2.out (fun e => by have e : B0 ≤ Bb := e; exact hBb e))
  have HU3 := Lib.hid ((HU2.out.mono (fun _ _ x => x.elim) : Upd (fun b => B0 ≤ b) w w2).trans hu3)
  clear hu3 x12 x13 x14 x15 x16
  have x13 := (blk17 HB3.out 13 (.slice none 0 0) rfl).1
  have x14 := (blk17 HB3.out 14 (.slice none 0 0) rfl).1
  have x15 := (blk17 HB3.out 15 (.slice none 0 0) rfl).1
  go_wp2_with fail
  refine (own70_nil _).mono ?_
  rintro e wq ⟨rfl, hw⟩
  replace hw := hw.symm
  subst hw
  go_wp2_with fail
  refine (own71_nil _).mono ?_
  rintro e wq ⟨rfl, hw⟩
  replace hw := hw.symm
  subst hw
  go_wp2_with fail
  refine (own72_nil _).mono ?_
  rintro e wq ⟨rfl, hw⟩
  replace hw := hw.symm
  subst hw
  go_wp2_with fail
  go_ret
  exact ⟨rfl, HU3.out⟩
end Go.Proofs.Ytnnjhafjcdjobaa

namespace Go.Proofs.Ytnnjhafjcdjobaa
open Go.RowKit
set_option linter.unusedVariables false
set_option linter.unusedSimpArgs false

structure Rw where
  v : Value
  n : Nat
  xs : List Value
def blocksR (RL : List Rw) : List Nat := RL.flatMap fun r => r.v.ownBlock.toList
theorem blocksR_app (a b : List Rw) : blocksR (a ++ b) = blocksR a ++ blocksR b := by simp [blocksR]
def RowsOk (w : World) (B0 : Nat) (RL : List Rw) : Prop := ∀ r ∈ RL, w.ownsRow B0 58 5 r.v r.n r.xs ∧ r.n ≤ 1000000
structure BookL (w : World) (B0 Bb : Nat) (T : Value) (RL : List Rw) : Prop where
  box : w.heap[Bb]? = some (.cells #[.slice none 0 0, .slice none 0 0, .slice none 0 0, .slice none 0 0, .slice none 0 0, .slice none 0 0, .slice none 0 0, .slice none 0 0, .slice none 0 0, .slice none 0 0, .slice none 0 0, .slice none 0 0, T, .slice none 0 0, .slice none 0 0, .slice none 0 0, .slice none 0 0] 46 (0, 0))
  own : w.ownsRow B0 23 1 T RL.length (RL.map Rw.v)
  ne : T.ownBlock ≠ some Bb
theorem infoD : (Try.prog.info? 23).map (fun i => (i.zero, i.size, i.bytes)) = some (some (.slice none 0 0), 1, 24) := by kernel_rfl
theorem elc_get (es : List El) (i : Nat) (hi : i < es.length) (r : Nat) (hr : r < 5) : (elCells es)[i * 5 + r]? = (es[i].cells)[r]? := by
  induction es generalizing i with
  | nil => simp at hi
  | cons a l ih =>
    have hc : a.cells.length = 5 := rfl
    cases i with
    | zero => simp only [elCells, List.flatMap_cons, List.getElem_cons_zero, Nat.zero_mul, Nat.zero_add]; rw [List.getElem?_append_left (by omega)]
    | succ i =>
      simp only [elCells, List.flatMap_cons, List.getElem_cons_succ]
      rw [List.getElem?_append_right (by omega), hc, show (i + 1) * 5 + r - 5 = i * 5 + r by omega]
      exact ih i (by simpa using hi)
/-- What Data leaves. -/
def DataPost (w1 : World) (B0 Bb : Nat) (T : Value) (RL0 : List Rw) (bs : List Nat) (k : Nat) (e : Ending) (w' : World) : Prop :=
  e = .returned (.tuple #[]) ∧ ∃ RL T', blocksR RL = bs ∧ RL.length = k ∧ RowsOk w' B0 RL ∧ BookL w' B0 Bb T' (RL0 ++ RL) ∧ Upd (fun b => b = Bb ∨ T.ownBlock = some b) w1 w' ∧ (T'.ownBlock = T.ownBlock ∨ ∀ b, T'.ownBlock = some b → w1.heap.size ≤ b)
def DataGoal (B0 Bb : Nat) (d : Dat) : Prop := ∀ (kv : Value) (bs : List Nat) (w1 : World) (T : Value) (RL0 : List Rw), Own w1 B0 kv d.kids bs → BookL w1 B0 Bb T RL0 → (∀ b ∈ bs, T.ownBlock ≠ some b) → Bb ∉ bs → RL0.length + (1 + manyL d.kids) ≤ 1000000 → B0 ≤ w1.heap.size →
  Calls Try.prog 18 #[.pointer (some ⟨Bb, 0, none⟩), kv] w1 (DataPost w1 B0 Bb T RL0 bs (1 + manyL d.kids))
set_option maxRecDepth 100000 in
set_option maxHeartbeats 2000000 in
theorem bdatum_calls {B0 Bb : Nat} {d : Dat} (hd : DataGoal B0 Bb d) (kv : Value) (bs : List Nat) (w1 : World) (T : Value) (RL0 : List Rw) (ho : Own w1 B0 kv d.kids bs) (hB : BookL w1 B0 Bb T RL0) (h1 : ∀ b ∈ bs, T.ownBlock ≠ some b) (h2 : Bb ∉ bs) (h3 : RL0.length + (1 + manyL d.kids) ≤ 1000000) (h4 : B0 ≤ w1.heap.size) :
    Calls Try.prog 55 #[.pointer (some ⟨Bb, 0, none⟩), datV d kv] w1 (DataPost w1 B0 Bb T RL0 bs (1 + manyL d.kids)) := by
  unfold datV
  have hu : New w1 (w1.alloc (.cells #[.int .u8 d.k, .int .i64 d.n, .string d.t, kv, .bool d.dot] 58)) := (Upd.refl (fun _ => False) w1).alloc _
  have hB2 : BookL (w1.alloc (.cells #[.int .u8 d.k, .int .i64 d.n, .string d.t, kv, .bool d.dot] 58)) B0 Bb T RL0 := ⟨hu.heap hB.box (fun x => x), hu.ownsRow hB.own (fun _ _ x => x), hB.ne⟩
  have HC := Lib.hid (hd kv bs _ T RL0 (ho.upd hu (fun _ _ x => x)) hB2 h1 h2 h3 (Nat.le_trans h4 hu.size))
  have HU := Lib.hid hu
  clear hd ho hB h1 h2 h3 h4 hu hB2
  go_enter Try.func55, Try.ntmps55
  go_wp2_with fail
  refine HC.out.mono ?_
  rintro e w' ⟨rfl, RL, T', a1, a2, a3, a4, a5, a6⟩
  have HP := Lib.hid (show DataPost w1 B0 Bb T RL0 bs (1 + manyL d.kids) (.returned (.tuple #[])) w' from ⟨rfl, RL, T', a1, a2, a3, a4, (HU.out.mono (fun _ _ x => x.elim) : Upd (fun b => b = Bb ∨ T.ownBlock = some b) w1 _).trans a5, a6.imp id (fun h b hb => Nat.le_trans HU.out.size (h b hb))⟩)
  clear a1 a2 a3 a4 a5 a6
  go_wp2_with fail
  go_end0
  exact HP.out
/-- In Data's loop. -/
def DLoop (w1 : World) (B0 Bb : Nat) (T : Value) (RL0 : List Rw) (v : Value) (es : List El) (i : Nat) (wr : World) : Prop :=
  ∃ RL T', blocksR RL = v.ownBlock.toList ++ (es.take i).flatMap El.bs ∧ RL.length = 1 + manyL ((es.take i).map El.d) ∧ RowsOk wr B0 RL ∧ BookL wr B0 Bb T' (RL0 ++ RL) ∧ Upd (fun b => b = Bb ∨ T.ownBlock = some b) w1 wr ∧ (T'.ownBlock = T.ownBlock ∨ ∀ b, T'.ownBlock = some b → w1.heap.size ≤ b)
theorem manyL_app (a b : List Dat) : manyL (a ++ b) = manyL a + manyL b := by
  induction a with
  | nil => simp [manyL]
  | cons x a ih => simp only [List.cons_append, manyL, ih]; omega
theorem many_kids (d : Dat) : d.many = 1 + manyL d.kids := by cases d; simp [Dat.many, Dat.kids]
set_option maxRecDepth 100000 in
set_option maxHeartbeats 8000000 in
theorem bdata_calls (B0 Bb : Nat) : ∀ d : Dat, DataGoal B0 Bb d := by
  intro d
  induction d using Dat.ind with
  | h k n t kids dot ih =>
    intro kv bs w1 T RL0 ho hB h1 h2 h3 h4
    simp only [Dat.kids] at ho h3
    obtain ⟨es, rfl, rfl, hrow, hes⟩ := ho.inv
    obtain ⟨Av, cv, hkv⟩ := Bk.own_form hrow
    subst hkv
    obtain ⟨AT, cT, hT⟩ := Bk.own_form hB.own
    obtain ⟨iS, hiS, hzS0, hzS1, hzS2⟩ := info_parts infoD
    obtain ⟨x12, f12⟩ := blk17 hB.box 12 T rfl
    have hBl := (Array.getElem?_eq_some_iff.1 hB.box).1
    have M1 := Lib.hid (show RL0.length + 1 ≤ maxLen by unfold maxLen; omega)
    have M2 := Lib.hid (show (RL0.length + 1) * 24 ≤ 140737488355328 by omega)
    have M3 := Lib.hid (show B0 ≤ (w1.alloc (.cells #[.slice Av es.length cv] 23)).heap.size by simp; omega)
    subst hT
    have hee : es.length ≤ 1000000 := by
      have : ∀ l : List El, l.length ≤ manyL (l.map El.d) := by
        intro l
        induction l with
        | nil => simp [manyL]
        | cons a l ih => simp only [List.map_cons, manyL, List.length_cons]; have := many_kids a.d; omega
      have := this es
      omega
    have HB := Lib.hid hB
    have HROW := Lib.hid hrow
    have HES := Lib.hid hes
    have HIH := Lib.hid ih
    have H1 := Lib.hid h1
    have H2 := Lib.hid h2
    have H3 := Lib.hid h3
    have H4 := Lib.hid h4
    clear hB hrow hes ih h1 h2 h3 h4 ho
    go_enter Try.func18, Try.ntmps18
    go_wp2_with (at_builtin; refine Bk.wpList_append2 (w1.alloc (.cells #[.slice Av es.length cv] 23)) (by rfl) (.tmp 9) (.tmp 11) 40 (by rfl) B0 23 iS _ 1 24 Try.underlying40 hiS hzS0 hzS1 hzS2 rfl (by decide) (.slice AT RL0.length cT) RL0.length (RL0.map Rw.v) (by rfl) (HB.out.own.alloc (.cells #[.slice Av es.length cv] 23)) w1.heap.size 1 1 [.slice Av es.length cv] (by rfl) (by decide) (by rfl) (World.news_of_block (heap_alloc_new w1 (.cells #[.slice Av es.length cv] 23))) (fun u hu => by simp only [List.mem_singleton] at hu; subst hu; rfl) M1.out M2.out M3.out ?_; intro v1 w5 ho5 hg5; obtain ⟨A5, c5, h5⟩ := Bk.own_form ho5; subst h5; have HB5 := Lib.hid (hg5.upd.heap ((Below.heap_alloc w1 (.cells #[.slice Av es.length cv] 23) Bb hBl).trans HB.out.box) (fun e => HB.out.ne e.1)); obtain ⟨x12, f12⟩ := blk17 HB5.out 12 (.slice AT RL0.length cT) rfl; have HO := Lib.hid ho5; have HG := Lib.hid hg5; clear ho5 hg5)
    have hne : (Value.slice A5 (RL0.length + 1) c5).ownBlock ≠ some Bb := fun e => by
      rcases HG.out with ⟨e1, _⟩ | ⟨e1, _⟩
      · exact HB.out.ne (e1 ▸ e)
      · rw [e1] at e; simp at e; omega
    have hu5 : Upd (fun b => b = Bb) w5 (w5.setCell ⟨Bb, 12, none⟩ (.slice A5 (RL0.length + 1) c5)) := (Upd.refl (fun b => b = Bb) w5).set rfl _
    have hall : Upd (fun b => b = Bb ∨ (Value.slice AT RL0.length cT).ownBlock = some b) w1 (w5.setCell ⟨Bb, 12, none⟩ (.slice A5 (RL0.length + 1) c5)) :=
      (((Upd.refl (fun b => b = Bb ∨ (Value.slice AT RL0.length cT).ownBlock = some b) w1).alloc (.cells #[.slice Av es.length cv] 23)).trans (HG.out.upd.mono (fun b _ hb => .inr hb.1))).trans (hu5.mono (fun b _ hb => .inl hb))
    have hd0 : DLoop w1 B0 Bb (.slice AT RL0.length cT) RL0 (.slice Av es.length cv) es 0 (w5.setCell ⟨Bb, 12, none⟩ (.slice A5 (RL0.length + 1) c5)) := by
      refine ⟨[⟨.slice Av es.length cv, es.length, elCells es⟩], .slice A5 (RL0.length + 1) c5, by simp [blocksR], by simp [manyL], ?_, ⟨heap_setCell_same w5 Bb 12 _ 46 _ HB5.out, ?_, hne⟩, hall, ?_⟩
      · intro r hr
        simp only [List.mem_singleton] at hr
        subst hr
        exact ⟨hall.ownsRow HROW.out (fun b hb e => e.elim (fun e => H2.out (List.mem_append.2 (.inl (by rw [← e, hb]; simp)))) (fun e => H1.out b (List.mem_append.2 (.inl (by rw [hb]; simp))) e)), hee⟩
      · rw [List.length_append, List.map_append]
        exact hu5.ownsRow HO.out (fun b hb e => hne (by rw [hb, e]))
      · rcases HG.out with ⟨e1, _⟩ | ⟨e1, _⟩
        · exact .inl e1
        · exact .inr (fun b hb => by rw [e1] at hb; simp only [Option.some.injEq] at hb; subst hb; simp)
    have HD0 := Lib.hid hd0
    clear hd0 hall hu5 hne x12 f12
    generalize w5.setCell ⟨Bb, 12, none⟩ (.slice A5 (RL0.length + 1) c5) = w6 at *
    go_loopw [4] (fun ii wr => ∃ i : Nat, i ≤ es.length ∧ ii = .int .i64 i ∧ DLoop w1 B0 Bb (.slice AT RL0.length cT) RL0 (.slice Av es.length cv) es i wr) (fun ii _ => es.length - (intOf ii).toNat)
    case atStart => exact ⟨0, Nat.zero_le _, rfl, HD0.out⟩
    case round =>
      obtain ⟨i, hil, rfl, hloop⟩ := hrel
      have i1 : (0 : Int) ≤ i := by omega
      have HL := Lib.hid hloop
      clear hloop
      by_cases hi : i < es.length
      · have i0 : (i : Int) < es.length := by omega
        have e1 : IntKind.i64.wrap ((i : Int) + 1) = (i : Int) + 1 := IntWalk.i64_in _ (by omega)
        have hmem : es[i] ∈ es := List.getElem_mem hi
        have htk : es.take (i + 1) = es.take i ++ [es[i]] := by rw [List.take_add_one]; simp [List.getElem?_eq_getElem hi]
        have hmany : manyL ((es.take i).map El.d) + (es[i].d).many ≤ manyL (es.map El.d) := by
          have h1 : es.map El.d = (es.take (i + 1)).map El.d ++ (es.drop (i + 1)).map El.d := by rw [← List.map_append, List.take_append_drop]
          rw [h1, manyL_app, htk, List.map_append, manyL_app]
          simp only [List.map_cons, List.map_nil, manyL]
          omega
        have hcell := fun r hr => elc_get es i hi r hr
        obtain ⟨RL, T', a1, a2, a3, a4, a5, a6⟩ := HL.out
        have hsub : ∀ b ∈ (es[i]).bs, b ∈ (Value.slice Av es.length cv).ownBlock.toList ++ es.flatMap El.bs := fun b hb => List.mem_append.2 (.inr (List.mem_flatMap.2 ⟨_, hmem, hb⟩))
        have hnF : ∀ b ∈ (Value.slice Av es.length cv).ownBlock.toList ++ es.flatMap El.bs, ¬ (b = Bb ∨ (Value.slice AT RL0.length cT).ownBlock = some b) := fun b hb h => h.elim (fun h => H2.out (h ▸ hb)) (fun h => H1.out b hb h)
        have hlt : ∀ b ∈ (Value.slice Av es.length cv).ownBlock.toList ++ es.flatMap El.bs, b < w1.heap.size := fun b hb => by
          rcases List.mem_append.1 hb with h | h
          · exact (Bk.own_lt HROW.out b (by simpa using h)).2
          · obtain ⟨x, hx, hb2⟩ := List.mem_flatMap.1 h
            exact ((HES.out x hx).blocks b hb2).2
        have hnT : ∀ b ∈ (Value.slice Av es.length cv).ownBlock.toList ++ es.flatMap El.bs, T'.ownBlock ≠ some b := fun b hb h => by
          rcases a6 with e | e
          · exact H1.out b hb (e ▸ h)
          · have := e b h; have := hlt b hb; omega
        have hoE := (HES.out _ hmem).upd a5 (fun b hb => hnF b (hsub b hb))
        have hrow2 := a5.ownsRow HROW.out (fun b hb => hnF b (List.mem_append.2 (.inl (by rw [hb]; simp))))
        have hsz5 := a5.size
        have hmk := many_kids (es[i]).d
        have hcon := bdatum_calls (HIH.out (es[i]).d (List.mem_map.2 ⟨_, hmem, rfl⟩)) (es[i]).kv (es[i]).bs wr T' (RL0 ++ RL) hoE a4 (fun b hb => hnT b (hsub b hb)) (fun hb => H2.out (hsub Bb hb)) (by rw [List.length_append]; have := H3.out; omega) (Nat.le_trans H4.out a5.size)
        obtain ⟨g, cg, hAv⟩ := Bk.own_some hrow2 (by omega)
        simp only [Value.slice.injEq, true_and] at hAv
        obtain ⟨rfl, rfl⟩ := hAv
        have c0 := (Bk.own_at hrow2 (i * 5 + 0) _ ((hcell 0 (by omega)).trans rfl)).1
        have c1 := (Bk.own_at hrow2 (i * 5 + 1) _ ((hcell 1 (by omega)).trans rfl)).1
        have c2 := (Bk.own_at hrow2 (i * 5 + 2) _ ((hcell 2 (by omega)).trans rfl)).1
        have c3 := (Bk.own_at hrow2 (i * 5 + 3) _ ((hcell 3 (by omega)).trans rfl)).1
        have c4 := (Bk.own_at hrow2 (i * 5 + 4) _ ((hcell 4 (by omega)).trans rfl)).1
        rw [Nat.add_zero] at c0
        unfold datV at hcon
        have HCON := Lib.hid hcon
        have HTK := Lib.hid htk
        have HA1 := Lib.hid a1
        have HA2 := Lib.hid a2
        have HA3 := Lib.hid a3
        have HA5 := Lib.hid a5
        have HA6 := Lib.hid a6
        have HNT := Lib.hid hnT
        have HBB := Lib.hid (fun b hb => (fun e => hnF b hb (.inl e) : b ≠ Bb))
        clear hcon htk a1 a2 a3 a4 a5 a6 hnT hoE hrow2 hsub hnF hlt hmany hcell hmk
        generalize es[i] = E at *
        go_wp2_with fail
        refine HCON.out.mono ?_
        rintro e w' ⟨rfl, RL2, T2, b1, b2, b3, b4, b5, b6⟩
        have hnext : DLoop w1 B0 Bb (.slice AT RL0.length cT) RL0 (.slice (some ⟨g, 0, none⟩) es.length cv) es (i + 1) w' := by
          refine ⟨RL ++ RL2, T2, ?_, ?_, ?_, ?_, ?_, ?_⟩
          · rw [blocksR_app, HA1.out, b1, HTK.out, List.flatMap_append, List.append_assoc]; simp
          · rw [List.length_append, HA2.out, b2, HTK.out, List.map_append, manyL_app]
            simp only [List.map_cons, List.map_nil, manyL]
            rw [many_kids E.d]
            omega
          · intro r hr
            rcases List.mem_append.1 hr with h | h
            · refine ⟨b5.ownsRow (HA3.out r h).1 (fun b hb e => ?_), (HA3.out r h).2⟩
              have hin : b ∈ blocksR RL := List.mem_flatMap.2 ⟨r, h, by rw [hb]; simp⟩
              rw [HA1.out] at hin
              have hin2 : b ∈ (Value.slice (some ⟨g, 0, none⟩) es.length cv).ownBlock.toList ++ es.flatMap El.bs := by
                rcases List.mem_append.1 hin with h | h
                · exact List.mem_append.2 (.inl h)
                · obtain ⟨x, hx, hb2⟩ := List.mem_flatMap.1 h
                  exact List.mem_append.2 (.inr (List.mem_flatMap.2 ⟨x, List.mem_of_mem_take hx, hb2⟩))
              exact e.elim (fun e => HBB.out b hin2 e) (fun e => HNT.out b hin2 e)
            · exact b3 r h
          · rw [← List.append_assoc]; exact b4
          · refine HA5.out.trans' b5 (fun b hb e => e.elim .inl (fun e => ?_))
            rcases HA6.out with h | h
            · exact .inr (h ▸ e)
            · have := h b e; omega
          · rcases b6 with h | h
            · rcases HA6.out with h2 | h2
              · exact .inl (h.trans h2)
              · exact .inr (fun b hb => h2 b (h ▸ hb))
            · exact .inr (fun b hb => Nat.le_trans hsz5 (h b hb))
        have HNX := Lib.hid hnext
        clear hnext b1 b2 b3 b4 b5 b6
        go_wp2_with fail
        go_roundw
        case rel => exact ⟨i + 1, by omega, by go_num, HNX.out⟩
        case measure => simp [intOf]; omega
      · have hii : i = es.length := by omega
        subst hii
        go_wp2_with fail
        go_end0
        obtain ⟨RL, T', a1, a2, a3, a4, a5, a6⟩ := HL.out
        rw [List.take_length] at a1 a2
        exact ⟨rfl, RL, T', a1, a2, a3, a4, a5, a6⟩
end Go.Proofs.Ytnnjhafjcdjobaa
