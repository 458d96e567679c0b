/- Lex: words: the program's and the reference's. -/
import Derived.Test.YtecoahdeafobkaaLxC
import Derived.Laws.ResultCell
import Derived.Laws.Rows
namespace Go.Proofs.Ytecoahdeafobkaa
open Go.RowKit
set_option linter.unusedVariables false

abbrev New (w w' : World) : Prop := Upd (fun _ => False) w w'
theorem alloc1 (w : World) (o1 o2 : Obj) : ((w.alloc o1).alloc o2).heap[w.heap.size]? = some o1 := (Below.heap_alloc _ _ _ (by simp)).trans (heap_alloc_new w o1)
theorem alloc2 (w : World) (o1 o2 : Obj) : ((w.alloc o1).alloc o2).heap[w.heap.size + 1]? = some o2 := by have := heap_alloc_new (w.alloc o1) o2; simpa using this
theorem blk4f {w : World} {b : Nat} {t : TypeId} {v0 v1 v2 v3 : Value} (h : w.heap[b]? = some (.cells #[v0, v1, v2, v3] t (0, 0))) :
    w.cell? ⟨b, 0, none⟩ = some v0 ∧ w.cell? ⟨b, 1, none⟩ = some v1 ∧ w.cell? ⟨b, 2, none⟩ = some v2 ∧ w.cell? ⟨b, 3, none⟩ = some v3 ∧
    w.frozen? ⟨b, 0, none⟩ = false ∧ w.frozen? ⟨b, 1, none⟩ = false ∧ w.frozen? ⟨b, 2, none⟩ = false ∧ w.frozen? ⟨b, 3, none⟩ = false := by
  refine ⟨?_, ?_, ?_, ?_, ?_, ?_, ?_, ?_⟩ <;> simp [World.cell?, World.frozen?, h]
theorem results_cell_tmp' {P : Program} {fn : Func} {p u : Tmp} {ty : TypeId} (h : fn.results = #[.cell p ty, .tmp u]) (tmps : Array Value) (w : World) (g : Nat) (t : TypeId) (cs : Array Value) (d : TypeDesc)
    (hp : tmps.getD p undef = .pointer (some ⟨g, 0, none⟩)) (hg : w.heap[g]? = some (.cells cs t (0, 0)))
    (hu : P.underlying ty = some d) (hd : (match d with | .struct _ | .array _ _ => true | _ => false) = true) (hi : (P.info? ty).map (·.size) = some cs.size) (v : Value) (hv : tmps.getD u undef = v) :
    (results fn tmps).run P w = .ok (.tuple #[.agg cs, v]) w := by
  rw [results_cell_tmp h, hp, hv]
  have : (asAddr (.pointer (some ⟨g, 0, none⟩))).run P w = .ok ⟨g, 0, none⟩ w := rfl
  rw [this]
  simp [run_loadVar_row w g t ty cs (0, 0) d hg hu hd hi]
theorem bset {w : World} {g : Nat} {t : TypeId} {cs : Array Value} (h : w.heap[g]? = some (.cells cs t (0, 0))) (i : Nat) (u : Value) : (w.setCell ⟨g, i, none⟩ u).heap[g]? = some (.cells (cs.setIfInBounds i u) t (0, 0)) := heap_setCell_same w g i cs t u h
theorem bset4 {w : World} {g : Nat} {t : TypeId} {c0 c1 c2 c3 u0 u1 u2 u3 : Value} (h : w.heap[g]? = some (.cells #[c0, c1, c2, c3] t (0, 0))) :
    ((((w.setCell ⟨g, 0, none⟩ u0).setCell ⟨g, 1, none⟩ u1).setCell ⟨g, 2, none⟩ u2).setCell ⟨g, 3, none⟩ u3).heap[g]? = some (.cells #[u0, u1, u2, u3] t (0, 0)) :=
  bset (bset (bset (bset h 0 u0) 1 u1) 2 u2) 3 u3
theorem size34 : (Try.prog.info? 34).map (·.size) = some 4 := by kernel_rfl
/-- Stores into some new boxes. -/
theorem finishN {F : Nat → Prop} {w W w1 w2 : World} (hW : New w W) (hu : Upd (fun _ => False) W w1) (h : Upd F w1 w2) (hF : ∀ k, F k → w.heap.size ≤ k) : New w w2 :=
  (hW.trans hu).trans' h (fun i hi hx => by have := hF i hx; omega)

/-- A token as it lies in a value. -/
def tokV (k : Int) (t : ByteArray) (n a : Int) : Value := .agg #[.int .u8 k, .string t, .int .i64 n, .int .i64 a]

theorem word_dot (s : ByteArray) (hs : Small s) (h0 : (s.toList == [46]) = true) (w : World) :
    Calls Try.prog 23 #[.string s] w fun e w' => e = .returned (.tuple #[tokV 4 ⟨#[]⟩ 0 0, .int .i64 0]) ∧ New w w' := by
  have hsz := hs.le
  have ht := Lib.hid (trim_calls s hs)
  go_enter Try.func23, Try.ntmps23
  go_wp2_with ((go_at_call 46; refine (ht.out _).mono ?_; rintro e w1 ⟨rfl, rfl⟩))
  refine bodyPost_ret (results_cell_tmp' rfl _ _ w.heap.size 34 #[.int .u8 4, .string ⟨#[]⟩, .int .i64 0, .int .i64 0] _ rfl (by exact heap_alloc_new w _) Try.underlying34 rfl size34 (.int .i64 0) rfl) rfl ⟨rfl, (Upd.refl _ w).alloc _⟩

theorem word_true (s : ByteArray) (hs : Small s) (h0 : (s.toList == [46]) = false) (h1 : (s.toList == [35, 116]) = true) (w : World) :
    Calls Try.prog 23 #[.string s] w fun e w' => e = .returned (.tuple #[tokV 8 ⟨#[]⟩ 0 0, .int .i64 0]) ∧ New w w' := by
  have hsz := hs.le
  have ht := Lib.hid (trim_calls s hs)
  go_enter Try.func23, Try.ntmps23
  go_wp2_with ((go_at_call 46; refine (ht.out _).mono ?_; rintro e w1 ⟨rfl, rfl⟩))
  refine bodyPost_ret (results_cell_tmp' rfl _ _ w.heap.size 34 #[.int .u8 8, .string ⟨#[]⟩, .int .i64 0, .int .i64 0] _ rfl (by exact heap_alloc_new w _) Try.underlying34 rfl size34 (.int .i64 0) rfl) rfl ⟨rfl, (Upd.refl _ w).alloc _⟩

theorem word_false (s : ByteArray) (hs : Small s) (h0 : (s.toList == [46]) = false) (h1 : (s.toList == [35, 116]) = false) (h2 : (s.toList == [35, 102]) = true) (w : World) :
    Calls Try.prog 23 #[.string s] w fun e w' => e = .returned (.tuple #[tokV 7 ⟨#[]⟩ 0 0, .int .i64 0]) ∧ New w w' := by
  have hsz := hs.le
  have ht := Lib.hid (trim_calls s hs)
  go_enter Try.func23, Try.ntmps23
  go_wp2_with ((go_at_call 46; refine (ht.out _).mono ?_; rintro e w1 ⟨rfl, rfl⟩))
  refine bodyPost_ret (results_cell_tmp' rfl _ _ w.heap.size 34 #[.int .u8 7, .string ⟨#[]⟩, .int .i64 0, .int .i64 0] _ rfl (by exact heap_alloc_new w _) Try.underlying34 rfl size34 (.int .i64 0) rfl) rfl ⟨rfl, (Upd.refl _ w).alloc _⟩

theorem proNum_ex (r : ByteArray) (m : Bool) : ∃ n e, proNum r m = .tuple #[.int .i64 n, .int .i64 e] := by
  unfold proNum; split
  · split
    · exact ⟨_, _, rfl⟩
    · split <;> exact ⟨_, _, rfl⟩
  · exact ⟨_, _, rfl⟩
theorem bare_size (s : ByteArray) : (bare s).size ≤ s.size := by
  unfold bare; split
  · rw [ByteArray.size_extract]; omega
  · exact Nat.le_refl _
theorem Small.bare {s : ByteArray} (h : Small s) : Small (bare s) := by have := bare_size s; have := h.le; unfold Small; omega
theorem number_calls (s : ByteArray) (hs : Small s) (hd : digB (bare s) = true) (w : World) : Calls Try.prog 48 #[.string s] w fun e w' =>
    e = .returned (proNum (bare s) (isNeg s)) ∧ New w w' := by
  by_cases h : isNeg s = true
  · have h1 := of_decide_eq_true h
    have hb : s.extract 1 s.size = bare s := by rw [bare, if_pos h1]
    rw [h]
    exact (number_neg s (bare s) hb hs hs.bare h1.1 h1.2 hd w).mono fun e w' ⟨he, q, hq⟩ => ⟨he, by subst hq; exact (Upd.refl _ w).drewN q⟩
  · have h' : isNeg s = false := by simpa using h
    have h1 := of_decide_eq_false h'
    have hb : s = bare s := by rw [bare, if_neg h1]
    have hz : s.size ≠ 0 := by rw [← hb] at hd; exact (of_decide_eq_true hd).1
    rw [h']
    exact (number_pos s (bare s) hs (fun x => h1 ⟨hz, x⟩) hd hb w).mono fun e w' ⟨he, hq⟩ => ⟨he, by subst hq; exact Upd.refl _ w⟩

theorem word_num (s : ByteArray) (hs : Small s) (h0 : (s.toList == [46]) = false) (h1 : (s.toList == [35, 116]) = false) (h2 : (s.toList == [35, 102]) = false) (hd : digB (bare s) = true) (n er : Int) (hp : proNum (bare s) (isNeg s) = .tuple #[.int .i64 n, .int .i64 er]) (w : World) :
    Calls Try.prog 23 #[.string s] w fun e w' => e = .returned (.tuple #[tokV 5 ⟨#[]⟩ n 0, .int .i64 er]) ∧ New w w' := by
  have hsz := hs.le
  have ht := Lib.hid (trim_calls s hs)
  have hdg := Lib.hid (digits_calls (bare s) hs.bare)
  have hnm0 := number_calls s hs hd
  rw [hp] at hnm0
  have hnm := Lib.hid hnm0
  clear hnm0 hp
  generalize bare s = r at *
  go_enter Try.func23, Try.ntmps23
  go_wp2_with (first | (go_at_call 46; refine (ht.out _).mono ?_; rintro e w1 ⟨rfl, rfl⟩) | (go_at_call 47; refine (hdg.out _).mono ?_; rintro e w1 ⟨rfl, rfl⟩) | (go_at_call 48; refine (hnm.out _).mono ?_; rintro e w1 ⟨rfl, hu⟩; obtain ⟨z0, z1, z2, z3, zf0, zf1, zf2, zf3⟩ := blk4f (hu.heap (k := w.heap.size) (o := .cells #[.int .u8 0, .string ⟨#[]⟩, .int .i64 0, .int .i64 0] 34 (0, 0)) (by exact heap_alloc_new w _) (fun x => x)); have hz := hu.heap (k := w.heap.size) (o := .cells #[.int .u8 0, .string ⟨#[]⟩, .int .i64 0, .int .i64 0] 34 (0, 0)) (by exact heap_alloc_new w _) (fun x => x); have HZ := Lib.hid hz; clear hz; have HU := Lib.hid hu; clear hu))
  refine bodyPost_ret (results_cell_tmp' rfl _ _ w.heap.size 34 #[.int .u8 5, .string ⟨#[]⟩, .int .i64 n, .int .i64 0] _ rfl (by exact bset4 HZ.out) Try.underlying34 rfl size34 (.int .i64 er) rfl) rfl ⟨rfl, ?_⟩
  refine finishN (F := fun k => w.heap.size ≤ k) ((Upd.refl _ w).alloc _) HU.out ?_ (fun k hk => hk)
  repeat (with_reducible first | exact Upd.refl _ _ | refine Upd.set ?_ (by show _ ≤ _; omega) _)

theorem word_badA (s : ByteArray) (hs : Small s) (h0 : (s.toList == [46]) = false) (h1 : (s.toList == [35, 116]) = false) (h2 : (s.toList == [35, 102]) = false) (hd : digB (bare s) = false) (hz : 0 < s.size) (c0 : Int) (hc0 : at' s 0 = c0) (h35 : (c0 == 35) = true) (w : World) :
    Calls Try.prog 23 #[.string s] w fun e w' => e = .returned (.tuple #[tokV 0 ⟨#[]⟩ 0 0, .int .i64 51]) ∧ New w w' := by
  have hsz := hs.le
  have ht := Lib.hid (trim_calls s hs)
  have hdg := Lib.hid (digits_calls (bare s) hs.bare)
  rw [← at_eq s 0 hz] at hc0
  have hz1 : (1 : Int) ≤ s.size := by omega
  generalize bare s = r at *
  go_enter Try.func23, Try.ntmps23
  go_wp2_with (first | (go_at_call 46; refine (ht.out _).mono ?_; rintro e w1 ⟨rfl, rfl⟩) | (go_at_call 47; refine (hdg.out _).mono ?_; rintro e w1 ⟨rfl, rfl⟩))
  refine bodyPost_ret (results_cell_tmp' rfl _ _ w.heap.size 34 #[.int .u8 0, .string ⟨#[]⟩, .int .i64 0, .int .i64 0] _ rfl (by exact heap_alloc_new w _) Try.underlying34 rfl size34 (.int .i64 51) rfl) rfl ⟨rfl, (Upd.refl _ w).alloc _⟩

theorem word_badB (s : ByteArray) (hs : Small s) (h0 : (s.toList == [46]) = false) (h1 : (s.toList == [35, 116]) = false) (h2 : (s.toList == [35, 102]) = false) (hd : digB (bare s) = false) (hz : 0 < s.size) (c0 : Int) (hc0 : at' s 0 = c0) (h35 : (c0 == 35) = false) (hne : (bare s).toList.isEmpty = false) (c1 : Int) (hc1 : at' (bare s) 0 = c1) (hdi : isDI c1 = true) (w : World) :
    Calls Try.prog 23 #[.string s] w fun e w' => e = .returned (.tuple #[tokV 0 ⟨#[]⟩ 0 0, .int .i64 51]) ∧ New w w' := by
  have hsz := hs.le
  have ht := Lib.hid (trim_calls s hs)
  have hdg := Lib.hid (digits_calls (bare s) hs.bare)
  rw [← at_eq s 0 hz] at hc0
  have hz1 : (1 : Int) ≤ s.size := by omega
  have hrs : 0 < (bare s).size := by
    rw [empty_iff] at hne
    have := of_decide_eq_false hne
    omega
  rw [← at_eq (bare s) 0 hrs] at hc1
  have hr1 : (1 : Int) ≤ (bare s).size := by omega
  generalize bare s = r at *
  go_enter Try.func23, Try.ntmps23
  go_wp2_with (first | (go_at_call 46; refine (ht.out _).mono ?_; rintro e w1 ⟨rfl, rfl⟩) | (go_at_call 47; refine (hdg.out _).mono ?_; rintro e w1 ⟨rfl, rfl⟩) | (go_at_call 49; refine (isDigit_calls _ _).mono ?_; rintro e w1 ⟨rfl, rfl⟩))
  refine bodyPost_ret (results_cell_tmp' rfl _ _ w.heap.size 34 #[.int .u8 0, .string ⟨#[]⟩, .int .i64 0, .int .i64 0] _ rfl (by exact heap_alloc_new w _) Try.underlying34 rfl size34 (.int .i64 51) rfl) rfl ⟨rfl, (Upd.refl _ w).alloc _⟩

theorem word_badC (s : ByteArray) (hs : Small s) (h0 : (s.toList == [46]) = false) (h1 : (s.toList == [35, 116]) = false) (h2 : (s.toList == [35, 102]) = false) (hd : digB (bare s) = false) (hz : 0 < s.size) (c0 : Int) (hc0 : at' s 0 = c0) (h35 : (c0 == 35) = false) (hne : (bare s).toList.isEmpty = false) (c1 : Int) (hc1 : at' (bare s) 0 = c1) (hdi : isDI c1 = false) (hl : decide ((32 : Int) < s.size) = true) (w : World) :
    Calls Try.prog 23 #[.string s] w fun e w' => e = .returned (.tuple #[tokV 0 ⟨#[]⟩ 0 0, .int .i64 51]) ∧ New w w' := by
  have hsz := hs.le
  have ht := Lib.hid (trim_calls s hs)
  have hdg := Lib.hid (digits_calls (bare s) hs.bare)
  rw [← at_eq s 0 hz] at hc0
  have hz1 : (1 : Int) ≤ s.size := by omega
  have hrs : 0 < (bare s).size := by
    rw [empty_iff] at hne
    have := of_decide_eq_false hne
    omega
  rw [← at_eq (bare s) 0 hrs] at hc1
  have hr1 : (1 : Int) ≤ (bare s).size := by omega
  generalize bare s = r at *
  go_enter Try.func23, Try.ntmps23
  go_wp2_with (first | (go_at_call 46; refine (ht.out _).mono ?_; rintro e w1 ⟨rfl, rfl⟩) | (go_at_call 47; refine (hdg.out _).mono ?_; rintro e w1 ⟨rfl, rfl⟩) | (go_at_call 49; refine (isDigit_calls _ _).mono ?_; rintro e w1 ⟨rfl, rfl⟩))
  refine bodyPost_ret (results_cell_tmp' rfl _ _ w.heap.size 34 #[.int .u8 0, .string ⟨#[]⟩, .int .i64 0, .int .i64 0] _ rfl (by exact heap_alloc_new w _) Try.underlying34 rfl size34 (.int .i64 51) rfl) rfl ⟨rfl, (Upd.refl _ w).alloc _⟩

theorem word_badD (s : ByteArray) (hs : Small s) (h0 : (s.toList == [46]) = false) (h1 : (s.toList == [35, 116]) = false) (h2 : (s.toList == [35, 102]) = false) (hd : digB (bare s) = false) (hz : 0 < s.size) (c0 : Int) (hc0 : at' s 0 = c0) (h35 : (c0 == 35) = false) (hne : (bare s).toList.isEmpty = true) (hl : decide ((32 : Int) < s.size) = true) (w : World) :
    Calls Try.prog 23 #[.string s] w fun e w' => e = .returned (.tuple #[tokV 0 ⟨#[]⟩ 0 0, .int .i64 51]) ∧ New w w' := by
  have hsz := hs.le
  have ht := Lib.hid (trim_calls s hs)
  have hdg := Lib.hid (digits_calls (bare s) hs.bare)
  rw [← at_eq s 0 hz] at hc0
  have hz1 : (1 : Int) ≤ s.size := by omega
  generalize bare s = r at *
  go_enter Try.func23, Try.ntmps23
  go_wp2_with (first | (go_at_call 46; refine (ht.out _).mono ?_; rintro e w1 ⟨rfl, rfl⟩) | (go_at_call 47; refine (hdg.out _).mono ?_; rintro e w1 ⟨rfl, rfl⟩) | (go_at_call 49; refine (isDigit_calls _ _).mono ?_; rintro e w1 ⟨rfl, rfl⟩))
  refine bodyPost_ret (results_cell_tmp' rfl _ _ w.heap.size 34 #[.int .u8 0, .string ⟨#[]⟩, .int .i64 0, .int .i64 0] _ rfl (by exact heap_alloc_new w _) Try.underlying34 rfl size34 (.int .i64 51) rfl) rfl ⟨rfl, (Upd.refl _ w).alloc _⟩

theorem word_symC (s : ByteArray) (hs : Small s) (h0 : (s.toList == [46]) = false) (h1 : (s.toList == [35, 116]) = false) (h2 : (s.toList == [35, 102]) = false) (hd : digB (bare s) = false) (hz : 0 < s.size) (c0 : Int) (hc0 : at' s 0 = c0) (h35 : (c0 == 35) = false) (hne : (bare s).toList.isEmpty = false) (c1 : Int) (hc1 : at' (bare s) 0 = c1) (hdi : isDI c1 = false) (hl : decide ((32 : Int) < s.size) = false) (w : World) :
    Calls Try.prog 23 #[.string s] w fun e w' => e = .returned (.tuple #[tokV 6 s 0 0, .int .i64 0]) ∧ New w w' := by
  have hsz := hs.le
  have ht := Lib.hid (trim_calls s hs)
  have hdg := Lib.hid (digits_calls (bare s) hs.bare)
  have hcl := Lib.hid (clone_calls s hs)
  rw [← at_eq s 0 hz] at hc0
  have hz1 : (1 : Int) ≤ s.size := by omega
  have hrs : 0 < (bare s).size := by
    rw [empty_iff] at hne
    have := of_decide_eq_false hne
    omega
  rw [← at_eq (bare s) 0 hrs] at hc1
  have hr1 : (1 : Int) ≤ (bare s).size := by omega
  generalize bare s = r at *
  go_enter Try.func23, Try.ntmps23
  go_wp2_with (first | (go_at_call 46; refine (ht.out _).mono ?_; rintro e w1 ⟨rfl, rfl⟩) | (go_at_call 47; refine (hdg.out _).mono ?_; rintro e w1 ⟨rfl, rfl⟩) | (go_at_call 49; refine (isDigit_calls _ _).mono ?_; rintro e w1 ⟨rfl, rfl⟩) | (go_at_call 50; refine (hcl.out _).mono ?_; rintro e w1 ⟨rfl, hb⟩; have hu := Upd.of_below (F := fun _ => False) hb; clear hb; obtain ⟨z0, z1, z2, z3, zf0, zf1, zf2, zf3⟩ := blk4f (hu.heap (k := w.heap.size) (o := .cells #[.int .u8 0, .string ⟨#[]⟩, .int .i64 0, .int .i64 0] 34 (0, 0)) (by exact heap_alloc_new w _) (fun x => x)); have hz := hu.heap (k := w.heap.size) (o := .cells #[.int .u8 0, .string ⟨#[]⟩, .int .i64 0, .int .i64 0] 34 (0, 0)) (by exact heap_alloc_new w _) (fun x => x); have HZ := Lib.hid hz; clear hz; have HU := Lib.hid hu; clear hu))
  refine bodyPost_ret (results_cell_tmp' rfl _ _ w.heap.size 34 #[.int .u8 6, .string s, .int .i64 0, .int .i64 0] _ rfl (by exact bset4 HZ.out) Try.underlying34 rfl size34 (.int .i64 0) rfl) rfl ⟨rfl, ?_⟩
  refine finishN (F := fun k => w.heap.size ≤ k) ((Upd.refl _ w).alloc _) HU.out ?_ (fun k hk => hk)
  repeat (with_reducible first | exact Upd.refl _ _ | refine Upd.set ?_ (by show _ ≤ _; omega) _)

theorem word_symD (s : ByteArray) (hs : Small s) (h0 : (s.toList == [46]) = false) (h1 : (s.toList == [35, 116]) = false) (h2 : (s.toList == [35, 102]) = false) (hd : digB (bare s) = false) (hz : 0 < s.size) (c0 : Int) (hc0 : at' s 0 = c0) (h35 : (c0 == 35) = false) (hne : (bare s).toList.isEmpty = true) (hl : decide ((32 : Int) < s.size) = false) (w : World) :
    Calls Try.prog 23 #[.string s] w fun e w' => e = .returned (.tuple #[tokV 6 s 0 0, .int .i64 0]) ∧ New w w' := by
  have hsz := hs.le
  have ht := Lib.hid (trim_calls s hs)
  have hdg := Lib.hid (digits_calls (bare s) hs.bare)
  have hcl := Lib.hid (clone_calls s hs)
  rw [← at_eq s 0 hz] at hc0
  have hz1 : (1 : Int) ≤ s.size := by omega
  generalize bare s = r at *
  go_enter Try.func23, Try.ntmps23
  go_wp2_with (first | (go_at_call 46; refine (ht.out _).mono ?_; rintro e w1 ⟨rfl, rfl⟩) | (go_at_call 47; refine (hdg.out _).mono ?_; rintro e w1 ⟨rfl, rfl⟩) | (go_at_call 49; refine (isDigit_calls _ _).mono ?_; rintro e w1 ⟨rfl, rfl⟩) | (go_at_call 50; refine (hcl.out _).mono ?_; rintro e w1 ⟨rfl, hb⟩; have hu := Upd.of_below (F := fun _ => False) hb; clear hb; obtain ⟨z0, z1, z2, z3, zf0, zf1, zf2, zf3⟩ := blk4f (hu.heap (k := w.heap.size) (o := .cells #[.int .u8 0, .string ⟨#[]⟩, .int .i64 0, .int .i64 0] 34 (0, 0)) (by exact heap_alloc_new w _) (fun x => x)); have hz := hu.heap (k := w.heap.size) (o := .cells #[.int .u8 0, .string ⟨#[]⟩, .int .i64 0, .int .i64 0] 34 (0, 0)) (by exact heap_alloc_new w _) (fun x => x); have HZ := Lib.hid hz; clear hz; have HU := Lib.hid hu; clear hu))
  refine bodyPost_ret (results_cell_tmp' rfl _ _ w.heap.size 34 #[.int .u8 6, .string s, .int .i64 0, .int .i64 0] _ rfl (by exact bset4 HZ.out) Try.underlying34 rfl size34 (.int .i64 0) rfl) rfl ⟨rfl, ?_⟩
  refine finishN (F := fun k => w.heap.size ≤ k) ((Upd.refl _ w).alloc _) HU.out ?_ (fun k hk => hk)
  repeat (with_reducible first | exact Upd.refl _ _ | refine Upd.set ?_ (by show _ ≤ _; omega) _)


end Go.Proofs.Ytecoahdeafobkaa
