/- Read: parts of the laws: data as they come out, lists that are made, what Read answers. -/
import Derived.Test.YtnnjhafjcdjobaaWrS
import Derived.Test.YtnnjhafjcdjobaaRdN
namespace Go.Proofs.Ytnnjhafjcdjobaa
open Go.RowKit
set_option linter.unusedVariables false
set_option linter.unusedSimpArgs false

def All (b : Nat) : Prop := True
theorem len_many (l : List Dat) : l.length ≤ manyL l := by
  induction l with
  | nil => simp [manyL]
  | cons d l ih =>
    have : 1 ≤ d.many := by obtain ⟨k, n, t, l, dot⟩ := d; rw [Dat.many]; omega
    rw [manyL, List.length_cons]; omega
theorem manyL_mem {l : List Dat} : ∀ d ∈ l, manyL d.kids ≤ manyL l := by
  induction l with
  | nil => intro d hd; simp at hd
  | cons x l ih =>
    intro d hd
    rw [manyL]
    rcases List.mem_cons.1 hd with rfl | hd
    · obtain ⟨k, n, t, l, dot⟩ := d; rw [Dat.many]; simp only [Dat.kids]; omega
    · have := ih d hd; omega
/-- Data of their own can be read. -/
theorem own_sees {w : World} {base : Nat} {v : Value} {l : List Dat} {bs : List Nat} (h : Own w base v l bs) (hm : manyL l ≤ 2000000) : Sees w All v l := by
  induction h with
  | mk v es h hk ih =>
    have hlen := len_many (es.map El.d)
    rw [List.length_map] at hlen
    refine .mk v es ?_ (by omega) fun e he => ih e he (by have := manyL_mem e.d (List.mem_map.2 ⟨e, he, rfl⟩); omega)
    rcases h.2 with ⟨rfl, h0⟩ | ⟨g, cap, cur, rfl, hb, hg, _⟩
    · have : es = [] := List.eq_nil_of_length_eq_zero h0
      subst this
      exact .inl ⟨rfl, none, 0, rfl⟩
    · refine .inr ⟨g, 0, cap, rfl, trivial, (Array.getElem?_eq_some_iff.1 hg).1, fun j u hj => ?_⟩
      have := own_cells h j u hj
      rw [Nat.zero_add]
      have e : (⟨g, 0, none⟩ : Addr).add j = ⟨g, j, none⟩ := by unfold Addr.add; split <;> simp_all
      rw [e] at this
      exact this
theorem sees_nil (w : World) (G : Nat → Prop) (A : Option Addr) (c : Nat) : Sees w G (.slice A 0 c) [] := .mk _ [] (.inl ⟨rfl, A, c, rfl⟩) (by simp) (by simp)
/-- A block that was made for a list. -/
theorem sees_block {w : World} {g c : Nat} {T : TypeId} {cs : Array Value} {fr : Nat × Nat} (es : List El) (hg : w.heap[g]? = some (.cells cs T fr)) (hcs : cs.toList = elCells es) (hn : es.length ≤ 2000000) (hk : ∀ e ∈ es, Sees w All e.kv e.d.kids) :
    Sees w All (.slice (some ⟨g, 0, none⟩) es.length c) (es.map El.d) := by
  refine .mk _ es (.inr ⟨g, 0, c, rfl, trivial, (Array.getElem?_eq_some_iff.1 hg).1, fun j u hj => ?_⟩) hn hk
  rw [← hcs, Array.getElem?_toList] at hj
  rw [Nat.zero_add, cell_of_row w g j cs T fr hg]
  exact hj
theorem symbol_calls (s : ByteArray) (w : World) : Calls Try.prog 29 #[.string s] w fun e w' => e = .returned (.agg #[.int .u8 2, .int .i64 0, .string s, .slice none 0 0, .bool false]) ∧ New w w' := by
  go_enter Try.func29, Try.ntmps29
  go_wp2_with fail
  exact bodyPost_ret (results_cell1 rfl _ _ w.heap.size 58 #[_, _, _, _, _] _ rfl (heap_alloc_new w _) Try.underlying58 rfl size58) rfl ⟨rfl, (Upd.refl (fun _ => False) w).alloc _⟩
theorem number_calls' (n : Int) (w : World) : Calls Try.prog 49 #[.int .i64 n] w fun e w' => e = .returned (.agg #[.int .u8 1, .int .i64 n, .string ⟨#[]⟩, .slice none 0 0, .bool false]) ∧ New w w' := by
  go_enter Try.func49, Try.ntmps49
  go_wp2_with fail
  exact bodyPost_ret (results_cell1 rfl _ _ w.heap.size 58 #[_, _, _, _, _] _ rfl (heap_alloc_new w _) Try.underlying58 rfl size58) rfl ⟨rfl, (Upd.refl (fun _ => False) w).alloc _⟩
theorem list_calls (A : Option Addr) (n c : Nat) (w : World) : Calls Try.prog 28 #[.slice A n c] w fun e w' => e = .returned (.agg #[.int .u8 5, .int .i64 0, .string ⟨#[]⟩, .slice A n c, .bool false]) ∧ New w w' := by
  go_enter Try.func28, Try.ntmps28
  go_wp2_with fail
  exact bodyPost_ret (results_cell1 rfl _ _ w.heap.size 58 #[_, _, _, _, _] _ rfl (heap_alloc_new w _) Try.underlying58 rfl size58) rfl ⟨rfl, (Upd.refl (fun _ => False) w).alloc _⟩
/-- Read, where it is known what is read. -/
theorem read_is {s : ByteArray} (hs : Small s) (h : ¬ tokErr s) {l : List Dat} {i m : Nat} (hr : readP (toks s 0).1 = .ok l i m) (w : World) :
    Calls Try.prog 16 #[.string s] w fun e w' => ∃ A c bs, e = .returned (.tuple #[.slice A l.length c, .int .i64 0, .int .i64 0]) ∧ New w w' ∧ Own w' w.heap.size (.slice A l.length c) l bs ∧ bs.Nodup := by
  have h1 := read_ok s hs h w
  rw [hr] at h1
  refine h1.mono fun e w' h2 => ?_
  obtain ⟨kv, bs, h3, h4, h5, h6⟩ := h2
  obtain ⟨A, c, rfl, _⟩ := h5.len
  exact ⟨A, c, bs, h3, h4, h5, h6⟩
theorem read_isnt {s : ByteArray} (hs : Small s) (h : ¬ tokErr s) {er : Int} {a : Nat} (hr : readP (toks s 0).1 = .bad er a) (w : World) :
    Calls Try.prog 16 #[.string s] w fun e w' => e = .returned (.tuple #[.slice none 0 0, .int .i64 er, .int .i64 a]) ∧ New w w' := by
  have h1 := read_ok s hs h w
  rw [hr] at h1
  exact h1
/-- Write of data that can be read. -/
theorem write_all {l : List Dat} {v : Value} {w : World} (hs : Sees w All v l) (hwee : weeL l) (hh : hgtL l ≤ 60000) (hm : manyL l ≤ 1000000) :
    Calls Try.prog 23 #[v] w fun e w' => e = .returned (.tuple #[.string (writeT l), .int .i64 (writeE l)]) ∧ New w w' :=
  write_calls l v (fun b => b < w.heap.size) w (hs.mono fun b hb _ => hb) (fun _ h => h) hwee hh hm

def exS : ByteArray := ⟨#[40, 97, 32, 49, 32, 46, 32, 98, 41, 32, 39, 120]⟩
def exT : ByteArray := ⟨#[40, 97, 32, 46, 32, 98, 32, 99, 41]⟩
def exA : Dat := lst [sym ⟨#[97]⟩, num 1, sym ⟨#[98]⟩] true
def exB : Dat := lst [sym quoteT, sym ⟨#[120]⟩] false
theorem exS_ok : ¬ tokErr exS ∧ readP (toks exS 0).1 = .ok [exA, exB] 8 7 := ⟨tokErr_of (by decide) (by kernel_rfl), by kernel_rfl⟩
theorem exT_bad : ¬ tokErr exT ∧ readP (toks exT 0).1 = .bad 60 7 := ⟨tokErr_of (by decide) (by kernel_rfl), by kernel_rfl⟩
def exL : List Dat := [lst [sym quoteT, num (-5)] false, lst [] false]
def exM : List Dat := [sym ⟨#[49, 97]⟩]
theorem exL_ok : writeE exL = 0 ∧ writeT exL = ⟨#[39, 45, 53, 10, 40, 41]⟩ := ⟨by kernel_rfl, by kernel_rfl⟩
theorem exM_bad : writeE exM = 60 := by kernel_rfl
set_option maxHeartbeats 4000000 in
set_option maxRecDepth 100000 in
theorem works_calls (w : World) : Calls Try.prog 14 #[] w fun e w' => e = .returned (.bool true) ∧ New w w' := by
  have H1 := Lib.hid (fun w => read_is (s := exS) (by unfold Small; decide) exS_ok.1 exS_ok.2 w)
  have H2 := Lib.hid (fun w => read_isnt (s := exT) (by unfold Small; decide) exT_bad.1 exT_bad.2 w)
  unfold exS at H1
  unfold exT at H2
  go_enter Try.func14, Try.ntmps14
  go_wp2_with fail
  refine (H1.out _).mono ?_
  rintro e w1 ⟨A, c, bs, rfl, hu1, ho1, -⟩
  have HU := Lib.hid hu1
  have HS := Lib.hid (own_sees ho1 (by decide))
  clear hu1 ho1
  go_wp2_with fail
  refine (H2.out _).mono ?_
  rintro e w2 ⟨rfl, hu2⟩
  replace HU := Lib.hid (HU.out.trans hu2)
  replace HS := Lib.hid (HS.out.new hu2)
  clear hu2
  go_wp2_with fail
  refine (symbol_calls _ _).mono ?_
  rintro e w3 ⟨rfl, hu3⟩
  replace HU := Lib.hid (HU.out.trans hu3)
  replace HS := Lib.hid (HS.out.new hu3)
  clear hu3
  go_wp2_with fail
  refine (number_calls' _ _).mono ?_
  rintro e w4 ⟨rfl, hu4⟩
  replace HU := Lib.hid (HU.out.trans hu4)
  replace HS := Lib.hid (HS.out.new hu4)
  clear hu4
  go_wp2_with fail
  refine (list_calls _ _ _ _).mono ?_
  rintro e w5 ⟨rfl, hu5⟩
  have HB1 := Lib.hid (hu5.heap (heap_alloc_new w4 (.cells #[.int .u8 2, .int .i64 0, .string ⟨#[113, 117, 111, 116, 101]⟩, .slice none 0 0, .bool false, .int .u8 1, .int .i64 (-5), .string ⟨#[]⟩, .slice none 0 0, .bool false] 58)) (fun x => x))
  replace hu5 := ((Upd.refl (fun _ => False) w4).alloc (.cells #[.int .u8 2, .int .i64 0, .string ⟨#[113, 117, 111, 116, 101]⟩, .slice none 0 0, .bool false, .int .u8 1, .int .i64 (-5), .string ⟨#[]⟩, .slice none 0 0, .bool false] 58)).trans hu5
  replace HU := Lib.hid (HU.out.trans hu5)
  replace HS := Lib.hid (HS.out.new hu5)
  clear hu5
  go_wp2_with fail
  refine (list_calls _ _ _ _).mono ?_
  rintro e w6 ⟨rfl, hu6⟩
  replace HU := Lib.hid (HU.out.trans hu6)
  replace HS := Lib.hid (HS.out.new hu6)
  replace HB1 := Lib.hid (hu6.heap HB1.out (fun x => x))
  clear hu6
  have hb2 := heap_alloc_new w6 (.cells #[.int .u8 5, .int .i64 0, .string ⟨#[]⟩, .slice (some ⟨w4.heap.size, 0, none⟩) 2 2, .bool false, .int .u8 5, .int .i64 0, .string ⟨#[]⟩, .slice none 0 0, .bool false] 58)
  have hn2 : New w6 (w6.alloc (.cells #[.int .u8 5, .int .i64 0, .string ⟨#[]⟩, .slice (some ⟨w4.heap.size, 0, none⟩) 2 2, .bool false, .int .u8 5, .int .i64 0, .string ⟨#[]⟩, .slice none 0 0, .bool false] 58)) := (Upd.refl (fun _ => False) w6).alloc _
  have hk1 := sees_block (c := 2) [⟨sym quoteT, .slice none 0 0, []⟩, ⟨num (-5), .slice none 0 0, []⟩] (hn2.heap HB1.out (fun x => x)) rfl (by simp) (fun e he => by
    simp only [List.mem_cons, List.not_mem_nil, or_false] at he
    rcases he with rfl | rfl <;> exact sees_nil _ _ _ _)
  have hk2 := sees_block (c := 2) [⟨lst [sym quoteT, num (-5)] false, .slice (some ⟨w4.heap.size, 0, none⟩) 2 2, []⟩, ⟨lst [] false, .slice none 0 0, []⟩] hb2 rfl (by simp) (fun e he => by
    simp only [List.mem_cons, List.not_mem_nil, or_false] at he
    rcases he with rfl | rfl
    · exact hk1
    · exact sees_nil _ _ _ _)
  have hw3 := write_all (l := exL) hk2 (by unfold exL; simp [weeL, lst, Dat.wee, sym, num, Small, quoteT]; decide) (by decide) (by decide)
  rw [exL_ok.1, exL_ok.2] at hw3
  have HW3 := Lib.hid hw3
  replace HU := Lib.hid (HU.out.trans hn2)
  replace HS := Lib.hid (HS.out.new hn2)
  clear hb2 hn2 hk1 hk2 hw3 HB1
  go_wp2_with fail
  refine HW3.out.mono ?_
  rintro e w7 ⟨rfl, hu7⟩
  replace HU := Lib.hid (HU.out.trans hu7)
  replace HS := Lib.hid (HS.out.new hu7)
  clear hu7 HW3
  go_wp2_with fail
  refine (symbol_calls _ _).mono ?_
  rintro e w8 ⟨rfl, hu8⟩
  replace HU := Lib.hid (HU.out.trans hu8)
  replace HS := Lib.hid (HS.out.new hu8)
  clear hu8
  have hb2 := heap_alloc_new w8 (.cells #[.int .u8 2, .int .i64 0, .string ⟨#[49, 97]⟩, .slice none 0 0, .bool false] 58)
  have hn2 : New w8 (w8.alloc (.cells #[.int .u8 2, .int .i64 0, .string ⟨#[49, 97]⟩, .slice none 0 0, .bool false] 58)) := (Upd.refl (fun _ => False) w8).alloc _
  have hk2 := sees_block (c := 1) [⟨sym ⟨#[49, 97]⟩, .slice none 0 0, []⟩] hb2 rfl (by simp) (fun e he => by
    simp only [List.mem_cons, List.not_mem_nil, or_false] at he
    subst he
    exact sees_nil _ _ _ _)
  have hw3 := write_all (l := exM) hk2 (by unfold exM; simp [weeL, Dat.wee, sym, Small]; decide) (by decide) (by decide)
  rw [writeT, exM_bad, if_neg (by decide)] at hw3
  have HW3 := Lib.hid hw3
  replace HU := Lib.hid (HU.out.trans hn2)
  replace HS := Lib.hid (HS.out.new hn2)
  clear hb2 hn2 hk2 hw3
  go_wp2_with fail
  refine HW3.out.mono ?_
  rintro e w9 ⟨rfl, hu9⟩
  replace HU := Lib.hid (HU.out.trans hu9)
  replace HS := Lib.hid (HS.out.new hu9)
  clear hu9 HW3
  go_wp2_with fail
  refine (symbol_calls _ _).mono ?_
  rintro e w10 ⟨rfl, hu10⟩
  replace HU := Lib.hid (HU.out.trans hu10)
  replace HS := Lib.hid (HS.out.new hu10)
  clear hu10
  go_wp2_with fail
  refine (number_calls' _ _).mono ?_
  rintro e w11 ⟨rfl, hu11⟩
  replace HU := Lib.hid (HU.out.trans hu11)
  replace HS := Lib.hid (HS.out.new hu11)
  clear hu11
  go_wp2_with fail
  refine (symbol_calls _ _).mono ?_
  rintro e w12 ⟨rfl, hu12⟩
  replace HU := Lib.hid (HU.out.trans hu12)
  replace HS := Lib.hid (HS.out.new hu12)
  clear hu12
  have hb4 := alloc1 w12 (.cells #[.int .u8 2, .int .i64 0, .string ⟨#[97]⟩, .slice none 0 0, .bool false, .int .u8 1, .int .i64 1, .string ⟨#[]⟩, .slice none 0 0, .bool false, .int .u8 2, .int .i64 0, .string ⟨#[98]⟩, .slice none 0 0, .bool false] 58) (.cells #[.int .u8 5, .int .i64 0, .string ⟨#[]⟩, .slice (some ⟨w12.heap.size, 0, none⟩) 3 3, .bool true] 58)
  have hb5 := alloc2 w12 (.cells #[.int .u8 2, .int .i64 0, .string ⟨#[97]⟩, .slice none 0 0, .bool false, .int .u8 1, .int .i64 1, .string ⟨#[]⟩, .slice none 0 0, .bool false, .int .u8 2, .int .i64 0, .string ⟨#[98]⟩, .slice none 0 0, .bool false] 58) (.cells #[.int .u8 5, .int .i64 0, .string ⟨#[]⟩, .slice (some ⟨w12.heap.size, 0, none⟩) 3 3, .bool true] 58)
  have hn2 : New w12 ((w12.alloc (.cells #[.int .u8 2, .int .i64 0, .string ⟨#[97]⟩, .slice none 0 0, .bool false, .int .u8 1, .int .i64 1, .string ⟨#[]⟩, .slice none 0 0, .bool false, .int .u8 2, .int .i64 0, .string ⟨#[98]⟩, .slice none 0 0, .bool false] 58)).alloc (.cells #[.int .u8 5, .int .i64 0, .string ⟨#[]⟩, .slice (some ⟨w12.heap.size, 0, none⟩) 3 3, .bool true] 58)) := ((Upd.refl (fun _ => False) w12).alloc _).alloc _
  have HB4 := Lib.hid hb4
  have HB5 := Lib.hid hb5
  replace HU := Lib.hid (HU.out.trans hn2)
  replace HS := Lib.hid (HS.out.new hn2)
  clear hb4 hb5 hn2
  go_wp2_with fail
  generalize (w12.alloc (.cells #[.int .u8 2, .int .i64 0, .string ⟨#[97]⟩, .slice none 0 0, .bool false, .int .u8 1, .int .i64 1, .string ⟨#[]⟩, .slice none 0 0, .bool false, .int .u8 2, .int .i64 0, .string ⟨#[98]⟩, .slice none 0 0, .bool false] 58)).alloc (.cells #[.int .u8 5, .int .i64 0, .string ⟨#[]⟩, .slice (some ⟨w12.heap.size, 0, none⟩) 3 3, .bool true] 58) = w13 at *
  obtain ⟨es, hes, hseen, -, hks⟩ := HS.out.inv
  obtain ⟨a, b, rfl⟩ : ∃ a b, es = [a, b] := by
    match es, congrArg List.length hes with
    | [a, b], _ => exact ⟨a, b, rfl⟩
  simp only [List.map_cons, List.map_nil, List.cons.injEq, and_true] at hes
  obtain ⟨ha, hb⟩ := hes
  obtain ⟨ad, ak, ab⟩ := a
  obtain ⟨bd, bk, bb⟩ := b
  simp only at ha hb
  subst ha hb
  obtain ⟨g, o, cc, hA, -, hltg, x0, x1, x2, x3, x4⟩ := hseen.at 0 (by simp)
  obtain ⟨g', o', cc', hA', -, hltg', y0, y1, y2, y3, y4⟩ := hseen.at 1 (by simp)
  simp only [List.length_cons, List.length_nil, Nat.zero_add, Value.slice.injEq, true_and] at hA hA'
  obtain ⟨rfl, rfl⟩ := hA
  simp only [Option.some.injEq, Addr.mk.injEq] at hA'
  obtain ⟨⟨rfl, rfl, -⟩, -⟩ := hA'
  simp only [List.getElem_cons_zero, List.getElem_cons_succ, Nat.zero_mul, Nat.add_zero, Nat.one_mul] at x0 x1 x2 x3 x4 y0 y1 y2 y3 y4
  have HKA := Lib.hid (hks ⟨exA, ak, ab⟩ (by simp))
  have HKB := Lib.hid (hks ⟨exB, bk, bb⟩ (by simp))
  obtain ⟨esA, hesA, hsA, -, -⟩ := HKA.out.inv
  obtain ⟨A1, c1, hkA⟩ := hsA.form
  obtain ⟨esB, hesB, hsB, -, -⟩ := HKB.out.inv
  obtain ⟨A3, c3, hkB⟩ := hsB.form
  simp only at hkA hkB
  subst hkA hkB
  have HX := Lib.hid (show Sees w13 All (.slice A1 esA.length c1) [sym ⟨#[97]⟩, num 1, sym ⟨#[98]⟩] from HKA.out)
  have HY := Lib.hid (show Sees w13 All (.slice A3 esB.length c3) [sym quoteT, sym ⟨#[120]⟩] from HKB.out)
  have HZ := Lib.hid (show Sees w13 All (.slice (some ⟨w12.heap.size, 0, none⟩) 3 3) [sym ⟨#[97]⟩, num 1, sym ⟨#[98]⟩] from sees_block (c := 3) [⟨sym ⟨#[97]⟩, .slice none 0 0, []⟩, ⟨num 1, .slice none 0 0, []⟩, ⟨sym ⟨#[98]⟩, .slice none 0 0, []⟩] HB4.out rfl (by simp) (fun e he => by
    simp only [List.mem_cons, List.not_mem_nil, or_false] at he
    rcases he with rfl | rfl | rfl <;> exact sees_nil _ _ _ _))
  replace x0 : w13.cell? ⟨g, o, none⟩ = some (.int .u8 5) := x0
  replace x1 : w13.cell? ⟨g, o + 1, none⟩ = some (.int .i64 0) := x1
  replace x2 : w13.cell? ⟨g, o + 2, none⟩ = some (.string ⟨#[]⟩) := x2
  replace x4 : w13.cell? ⟨g, o + 4, none⟩ = some (.bool true) := x4
  replace y0 : w13.cell? ⟨g, o + 5, none⟩ = some (.int .u8 5) := y0
  replace y1 : w13.cell? ⟨g, o + 5 + 1, none⟩ = some (.int .i64 0) := y1
  replace y2 : w13.cell? ⟨g, o + 5 + 2, none⟩ = some (.string ⟨#[]⟩) := y2
  replace y4 : w13.cell? ⟨g, o + 5 + 4, none⟩ = some (.bool false) := y4
  have HY0 := Lib.hid (And.intro y0 (And.intro y1 (And.intro y2 (And.intro y3 y4))))
  obtain ⟨⟨k0, k1, k2, k3, k4⟩, kf⟩ := blk5 HB5.out
  clear hks hseen hltg hltg' hsA hsB hesA hesB HKA HKB HS y0 y1 y2 y3 y4 H1 H2
  go_still_tail 4, (by kernel_rfl)
  change wpList _ _ _ _ _ w13.drew
  go_wp2_with fail
  refine (same_calls (lst [sym ⟨#[97]⟩, num 1, sym ⟨#[98]⟩] true) (lst [sym ⟨#[97]⟩, num 1, sym ⟨#[98]⟩] true) All (.slice A1 esA.length c1) (.slice (some ⟨w12.heap.size, 0, none⟩) 3 3) _ (HX.out.new (Upd.refl (fun _ => False) w13).drew) (HZ.out.new (Upd.refl (fun _ => False) w13).drew)).mono ?_
  rintro e w14 ⟨rfl, hu14⟩
  replace hu14 := ((Upd.refl (fun _ => False) w13).drew).trans hu14
  replace HU := Lib.hid (HU.out.trans hu14)
  replace HY := Lib.hid (HY.out.new hu14)
  have y0 := hu14.cell HY0.out.1 (fun x => x)
  have y1 := hu14.cell HY0.out.2.1 (fun x => x)
  have y2 := hu14.cell HY0.out.2.2.1 (fun x => x)
  have y3 := hu14.cell HY0.out.2.2.2.1 (fun x => x)
  have y4 := hu14.cell HY0.out.2.2.2.2 (fun x => x)
  rw [sameB_true rfl]
  clear hu14 x0 x1 x2 x3 x4 k0 k1 k2 k3 k4 kf HX HZ HY0 HB4 HB5
  go_wp2_with fail
  go_region_held3 (fun w' => w'.cell? ⟨g, o + 5, none⟩ = some (.int .u8 5) ∧ w'.cell? ⟨g, o + 5 + 1, none⟩ = some (.int .i64 0) ∧ w'.cell? ⟨g, o + 5 + 2, none⟩ = some (.string ⟨#[]⟩) ∧ w'.cell? ⟨g, o + 5 + 3, none⟩ = some (.slice A3 esB.length c3) ∧ w'.cell? ⟨g, o + 5 + 4, none⟩ = some (.bool false)) (first | exact ⟨y0, y1, y2, y3, y4⟩ | exact ⟨z0, z1, z2, z3, z4⟩ | exact ⟨u0, u1, u2, u3, u4⟩ | exact ⟨v0, v1, v2, v3, v4⟩ | exact ⟨t0, t1, t2, t3, t4⟩ | go_keep)
    (first
      | (go_at_call 29; refine (symbol_calls ⟨#[113, 117, 111, 116, 101]⟩ _).mono ?_; rintro e w15 ⟨rfl, hu15⟩; replace hu15 := ((Upd.refl (fun _ => False) w14).drew).trans hu15; have z0 := hu15.cell y0 (fun x => x); have z1 := hu15.cell y1 (fun x => x); have z2 := hu15.cell y2 (fun x => x); have z3 := hu15.cell y3 (fun x => x); have z4 := hu15.cell y4 (fun x => x); have HU15 := Lib.hid hu15; clear hu15)
      | (go_at_call 29; refine (symbol_calls ⟨#[120]⟩ _).mono ?_; rintro e w16 ⟨rfl, hu16⟩; have u0 := hu16.cell z0 (fun x => x); have u1 := hu16.cell z1 (fun x => x); have u2 := hu16.cell z2 (fun x => x); have u3 := hu16.cell z3 (fun x => x); have u4 := hu16.cell z4 (fun x => x); have HU16 := Lib.hid (HU15.out.trans hu16); clear hu16)
      | (go_at_call 28; refine (list_calls _ _ _ _).mono ?_; rintro e w17 ⟨rfl, hu17⟩; have HB := Lib.hid (hu17.heap (heap_alloc_new w16 (.cells #[.int .u8 2, .int .i64 0, .string ⟨#[113, 117, 111, 116, 101]⟩, .slice none 0 0, .bool false, .int .u8 2, .int .i64 0, .string ⟨#[120]⟩, .slice none 0 0, .bool false] 58)) (fun x => x)); have HU17 := Lib.hid (HU16.out.trans (((Upd.refl (fun _ => False) w16).alloc (.cells #[.int .u8 2, .int .i64 0, .string ⟨#[113, 117, 111, 116, 101]⟩, .slice none 0 0, .bool false, .int .u8 2, .int .i64 0, .string ⟨#[120]⟩, .slice none 0 0, .bool false] 58)).trans hu17)); replace hu17 := ((Upd.refl (fun _ => False) w16).alloc (.cells #[.int .u8 2, .int .i64 0, .string ⟨#[113, 117, 111, 116, 101]⟩, .slice none 0 0, .bool false, .int .u8 2, .int .i64 0, .string ⟨#[120]⟩, .slice none 0 0, .bool false] 58)).trans hu17; have v0 := hu17.cell u0 (fun x => x); have v1 := hu17.cell u1 (fun x => x); have v2 := hu17.cell u2 (fun x => x); have v3 := hu17.cell u3 (fun x => x); have v4 := hu17.cell u4 (fun x => x); clear hu17)
      | (go_at_call 24; refine (same_calls (lst [sym quoteT, sym ⟨#[120]⟩] false) (lst [sym quoteT, sym ⟨#[120]⟩] false) All (.slice A3 esB.length c3) (.slice (some ⟨w16.heap.size, 0, none⟩) 2 2) _ (HY.out.new HU17.out) (sees_block (c := 2) [⟨sym quoteT, .slice none 0 0, []⟩, ⟨sym ⟨#[120]⟩, .slice none 0 0, []⟩] HB.out rfl (by simp) (fun e he => by
          simp only [List.mem_cons, List.not_mem_nil, or_false] at he
          rcases he with rfl | rfl <;> exact sees_nil _ _ _ _))).mono ?_; rintro e w18 ⟨rfl, hu18⟩; have HU18 := Lib.hid (HU17.out.trans hu18); have t0 := hu18.cell v0 (fun x => x); have t1 := hu18.cell v1 (fun x => x); have t2 := hu18.cell v2 (fun x => x); have t3 := hu18.cell v3 (fun x => x); have t4 := hu18.cell v4 (fun x => x); clear hu18))
  rw [sameB_true rfl]
  go_wp2_with fail
  go_ret
  exact ⟨rfl, HU.out.trans HU18.out⟩
end Go.Proofs.Ytnnjhafjcdjobaa
