/- Lex: next. -/
import Derived.Test.YtecoahdeafobkaaLxH
import Derived.Deep.DeepCutAuto
namespace Go.Proofs.Ytecoahdeafobkaa
open Go.RowKit
set_option linter.unusedVariables false

theorem results_cell_tmp2' {P : Program} {fn : Func} {p u q : Tmp} {ty : TypeId} (h : fn.results = #[.cell p ty, .tmp u, .tmp q]) (tmps : Array Value) (w : World) (g : Nat) (t : TypeId) (cs : Array Value) (d : TypeDesc)
    (hp : tmps.getD p undef = .pointer (some ⟨g, 0, none⟩)) (hg : w.heap[g]? = some (.cells cs t (0, 0)))
    (hu : P.underlying ty = some d) (hd : (match d with | .struct _ | .array _ _ => true | _ => false) = true) (hi : (P.info? ty).map (·.size) = some cs.size) (v v2 : Value) (hv : tmps.getD u undef = v) (hv2 : tmps.getD q undef = v2) :
    (results fn tmps).run P w = .ok (.tuple #[.agg cs, v, v2]) w := by
  have hp' : tmps[p]?.getD undef = .pointer (some ⟨g, 0, none⟩) := by simpa using hp
  have hv' : tmps[u]?.getD undef = v := by simpa using hv
  have hv2' : tmps[q]?.getD undef = v2 := by simpa using hv2
  simp [results, h, hp', hv', hv2', asAddr, run_loadVar_row w g t ty cs (0, 0) d hg hu hd hi]

theorem bother {w : World} {g b i : Nat} {o : Obj} (h : w.heap[g]? = some o) (hne : g ≠ b) (u : Value) : (w.setCell ⟨b, i, none⟩ u).heap[g]? = some o := (heap_setCell_other w ⟨b, i, none⟩ g u hne).trans h

def wordEnd (s : ByteArray) (a : Nat) : Nat := if a < s.size ∧ isWI (at' s a) = true then wordEnd s (a + 1) else a
termination_by s.size - a
theorem wordEnd_le (s : ByteArray) : ∀ n a, s.size - a = n → a ≤ s.size → a ≤ wordEnd s a ∧ wordEnd s a ≤ s.size := by
  intro n
  induction n with
  | zero => intro a h ha; rw [wordEnd, if_neg (fun x => by omega)]; omega
  | succ n ih =>
    intro a h ha
    rw [wordEnd]
    split
    · have := ih (a + 1) (by omega) (by omega); omega
    · omega

theorem next_end (s : ByteArray) (hs : Small s) (a : Nat) (ha : a ≤ s.size) (b : Nat) (hb : skipG s false a = b) (hbz : b = s.size) (w : World) :
    Calls Try.prog 26 #[.string s, .int .i64 a] w fun e w' => e = .returned (.tuple #[tokV 9 ⟨#[]⟩ 0 s.size, .int .i64 s.size, .int .i64 0]) ∧ New w w' := by
  have hsz := hs.le
  have hsk0 := skip_calls s hs a ha
  rw [hb] at hsk0
  have hsk := Lib.hid hsk0
  have hbl : b ≤ s.size := by rw [← hb]; exact skipG_le s _ _ _ rfl ha
  have HB := Lib.hid hb
  clear hsk0 hb
  subst hbz
  go_enter Try.func26, Try.ntmps26
  go_wp2_with ((go_at_call 53; refine (hsk.out _).mono ?_; rintro e w1 ⟨rfl, rfl⟩))
  refine bodyPost_ret (results_cell_tmp2' rfl _ _ w.heap.size 34 #[.int .u8 9, .string ⟨#[]⟩, .int .i64 0, .int .i64 s.size] _ rfl (by exact heap_alloc_new w _) Try.underlying34 rfl size34 (.int .i64 s.size) (.int .i64 0) rfl rfl) rfl ⟨rfl, (Upd.refl _ w).alloc _⟩

theorem next_open (s : ByteArray) (hs : Small s) (a : Nat) (ha : a ≤ s.size) (b : Nat) (hb : skipG s false a = b) (hlt : b < s.size) (hc : at' s b = 40) (w : World) :
    Calls Try.prog 26 #[.string s, .int .i64 a] w fun e w' => e = .returned (.tuple #[tokV 1 ⟨#[]⟩ 0 b, .int .i64 (b + 1), .int .i64 0]) ∧ New w w' := by
  have hsz := hs.le
  have hsk0 := skip_calls s hs a ha
  rw [hb] at hsk0
  have hsk := Lib.hid hsk0
  have hbl : b ≤ s.size := by rw [← hb]; exact skipG_le s _ _ _ rfl ha
  have HB := Lib.hid hb
  clear hsk0 hb
  have hv := at_eq s b hlt
  rw [hc] at hv
  go_enter Try.func26, Try.ntmps26
  go_wp2_with ((go_at_call 53; refine (hsk.out _).mono ?_; rintro e w1 ⟨rfl, rfl⟩))
  refine bodyPost_ret (results_cell_tmp2' rfl _ _ w.heap.size 34 #[.int .u8 1, .string ⟨#[]⟩, .int .i64 0, .int .i64 b] _ rfl (by exact alloc1 _ _ _) Try.underlying34 rfl size34 (.int .i64 (b + 1)) (.int .i64 0) rfl rfl) rfl ⟨rfl, ((Upd.refl _ w).alloc _).alloc _⟩

theorem next_close (s : ByteArray) (hs : Small s) (a : Nat) (ha : a ≤ s.size) (b : Nat) (hb : skipG s false a = b) (hlt : b < s.size) (hc : at' s b = 41) (w : World) :
    Calls Try.prog 26 #[.string s, .int .i64 a] w fun e w' => e = .returned (.tuple #[tokV 2 ⟨#[]⟩ 0 b, .int .i64 (b + 1), .int .i64 0]) ∧ New w w' := by
  have hsz := hs.le
  have hsk0 := skip_calls s hs a ha
  rw [hb] at hsk0
  have hsk := Lib.hid hsk0
  have hbl : b ≤ s.size := by rw [← hb]; exact skipG_le s _ _ _ rfl ha
  have HB := Lib.hid hb
  clear hsk0 hb
  have hv := at_eq s b hlt
  rw [hc] at hv
  go_enter Try.func26, Try.ntmps26
  go_wp2_with ((go_at_call 53; refine (hsk.out _).mono ?_; rintro e w1 ⟨rfl, rfl⟩))
  refine bodyPost_ret (results_cell_tmp2' rfl _ _ w.heap.size 34 #[.int .u8 2, .string ⟨#[]⟩, .int .i64 0, .int .i64 b] _ rfl (by exact alloc1 _ _ _) Try.underlying34 rfl size34 (.int .i64 (b + 1)) (.int .i64 0) rfl rfl) rfl ⟨rfl, ((Upd.refl _ w).alloc _).alloc _⟩

theorem next_quote (s : ByteArray) (hs : Small s) (a : Nat) (ha : a ≤ s.size) (b : Nat) (hb : skipG s false a = b) (hlt : b < s.size) (hc : at' s b = 39) (w : World) :
    Calls Try.prog 26 #[.string s, .int .i64 a] w fun e w' => e = .returned (.tuple #[tokV 3 ⟨#[]⟩ 0 b, .int .i64 (b + 1), .int .i64 0]) ∧ New w w' := by
  have hsz := hs.le
  have hsk0 := skip_calls s hs a ha
  rw [hb] at hsk0
  have hsk := Lib.hid hsk0
  have hbl : b ≤ s.size := by rw [← hb]; exact skipG_le s _ _ _ rfl ha
  have HB := Lib.hid hb
  clear hsk0 hb
  have hv := at_eq s b hlt
  rw [hc] at hv
  go_enter Try.func26, Try.ntmps26
  go_wp2_with ((go_at_call 53; refine (hsk.out _).mono ?_; rintro e w1 ⟨rfl, rfl⟩))
  refine bodyPost_ret (results_cell_tmp2' rfl _ _ w.heap.size 34 #[.int .u8 3, .string ⟨#[]⟩, .int .i64 0, .int .i64 b] _ rfl (by exact alloc1 _ _ _) Try.underlying34 rfl size34 (.int .i64 (b + 1)) (.int .i64 0) rfl rfl) rfl ⟨rfl, ((Upd.refl _ w).alloc _).alloc _⟩

theorem next_bad (s : ByteArray) (hs : Small s) (a : Nat) (ha : a ≤ s.size) (b : Nat) (hb : skipG s false a = b) (hlt : b < s.size) (c : Int) (hc : at' s b = c) (n0 : (c == 40) = false) (n1 : (c == 41) = false) (n2 : (c == 39) = false) (hw : isWI c = false) (w : World) :
    Calls Try.prog 26 #[.string s, .int .i64 a] w fun e w' => e = .returned (.tuple #[tokV 0 ⟨#[]⟩ 0 0, .int .i64 b, .int .i64 50]) ∧ New w w' := by
  have hsz := hs.le
  have hsk0 := skip_calls s hs a ha
  rw [hb] at hsk0
  have hsk := Lib.hid hsk0
  have hbl : b ≤ s.size := by rw [← hb]; exact skipG_le s _ _ _ rfl ha
  have HB := Lib.hid hb
  clear hsk0 hb
  have hv := at_eq s b hlt
  rw [hc] at hv
  go_enter Try.func26, Try.ntmps26
  go_wp2_with (first | (go_at_call 53; refine (hsk.out _).mono ?_; rintro e w1 ⟨rfl, rfl⟩) | (go_at_call 22; refine (isWord_calls _ _).mono ?_; rintro e w1 ⟨rfl, rfl⟩))
  refine bodyPost_ret (results_cell_tmp2' rfl _ _ w.heap.size 34 #[.int .u8 0, .string ⟨#[]⟩, .int .i64 0, .int .i64 0] _ rfl (by exact alloc1 _ _ _) Try.underlying34 rfl size34 (.int .i64 b) (.int .i64 50) rfl rfl) rfl ⟨rfl, ((Upd.refl _ w).alloc _).alloc _⟩

set_option maxHeartbeats 300000 in
theorem next_word (s : ByteArray) (hs : Small s) (a : Nat) (ha : a ≤ s.size) (b : Nat) (hb : skipG s false a = b) (hlt : b < s.size) (c : Int) (hc : at' s b = c) (n0 : (c == 40) = false) (n1 : (c == 41) = false) (n2 : (c == 39) = false) (hwc : isWI c = true)
    (E : Nat) (hE : wordEnd s (b + 1) = E) (e1 k1 n1' : Int) (t1 : ByteArray) (hw0 : ∀ w, Calls Try.prog 23 #[.string (s.extract b E)] w fun e w' => e = .returned (.tuple #[tokV k1 t1 n1' 0, .int .i64 e1]) ∧ New w w') (he : (e1 != 0) = false) (w : World) :
    Calls Try.prog 26 #[.string s, .int .i64 a] w fun e w' => e = .returned (.tuple #[tokV k1 t1 n1' b, .int .i64 E, .int .i64 0]) ∧ New w w' := by
  have hsz := hs.le
  have hsk0 := skip_calls s hs a ha
  rw [hb] at hsk0
  have hsk := Lib.hid hsk0
  have hbl : b ≤ s.size := by omega
  have hEb : b < E ∧ E ≤ s.size := by have := wordEnd_le s _ (b + 1) rfl (by omega); omega
  obtain ⟨hE1, hE2⟩ := hEb
  clear hsk0 hb
  unfold tokV at hw0
  have hw := Lib.hid hw0
  have HE := Lib.hid hE
  clear hw0 hE
  have hv := at_eq s b hlt
  rw [hc] at hv
  go_enter Try.func26, Try.ntmps26
  go_wp2_with (first | (go_at_call 53; refine (hsk.out _).mono ?_; rintro e w1 ⟨rfl, rfl⟩) | (go_at_call 22; refine (isWord_calls _ _).mono ?_; rintro e w1 ⟨rfl, rfl⟩))
  go_loop [8] (fun i => ∃ k : Nat, b < k ∧ k ≤ E ∧ i = .int .i64 k ∧ wordEnd s k = E) (fun i => s.size - (intOf i).toNat)
  case atStart => exact ⟨b + 1, by omega, by omega, by simp, HE.out⟩
  case round =>
    obtain ⟨k, hbk, hkE, rfl, hall⟩ := hrel
    have hk : k ≤ s.size := by omega
    by_cases hl2 : k < s.size
    · have hv2 := at_eq s k hl2
      have hwe := wordEnd.eq_def s k
      rw [hall] at hwe
      generalize hc2 : at' s k = c2 at *
      cases hd : isWI c2
      · have hkE2 : k = E := by rw [hwe, if_neg (fun x => by rw [hd] at x; exact absurd x.2 (by simp))]
        clear hwe hall
        subst hkE2
        have b0 : (0 : Int) ≤ b := by omega
        have b1 : (b : Int) ≤ k := by omega
        have b2 : (k : Int) ≤ s.size := by omega
        go_upto_region 17 with (first | (go_at_call 22; refine (isWord_calls _ _).mono ?_; rintro e w1 ⟨rfl, rfl⟩) | (go_at_call 23; refine (hw.out _).mono ?_; rintro e w1 ⟨rfl, hu⟩; obtain ⟨y0, y1, y2, y3, yf0, yf1, yf2, yf3⟩ := blk4f (hu.heap (k := w.heap.size) (o := .cells #[.int .u8 0, .string ⟨#[]⟩, .int .i64 0, .int .i64 0] 34 (0, 0)) (by exact alloc1 _ _ _) (fun x => x)); have hy := hu.heap (k := w.heap.size) (o := .cells #[.int .u8 0, .string ⟨#[]⟩, .int .i64 0, .int .i64 0] 34 (0, 0)) (by exact alloc1 _ _ _) (fun x => x); have Hy := Lib.hid hy; clear hy; obtain ⟨z0, z1, z2, z3, zf0, zf1, zf2, zf3⟩ := blk4f (hu.heap (k := w.heap.size + 1) (o := .cells #[.int .u8 0, .string ⟨#[]⟩, .int .i64 0, .int .i64 0] 34 (0, 0)) (by exact alloc2 _ _ _) (fun x => x)); have hz := hu.heap (k := w.heap.size + 1) (o := .cells #[.int .u8 0, .string ⟨#[]⟩, .int .i64 0, .int .i64 0] 34 (0, 0)) (by exact alloc2 _ _ _) (fun x => x); have Hz := Lib.hid hz; clear hz; have HU := Lib.hid hu; clear hu))
        have Hz2 := bset4 (u0 := .int .u8 k1) (u1 := .string t1) (u2 := .int .i64 n1') (u3 := .int .i64 0) Hz.out
        have Hy2 := bother (b := w.heap.size + 1) (i := 3) (bother (b := w.heap.size + 1) (i := 2) (bother (b := w.heap.size + 1) (i := 1) (bother (b := w.heap.size + 1) (i := 0) Hy.out (by omega) (.int .u8 k1)) (by omega) (.string t1)) (by omega) (.int .i64 n1')) (by omega) (.int .i64 0)
        have HU2 : Upd (fun k => w.heap.size ≤ k) _ _ := (((Upd.trans' ((((Upd.refl (fun k => w.heap.size ≤ k) w).alloc _).alloc _)) HU.out (fun _ _ x => x.elim)).set (b := w.heap.size + 1) (i := 0) (by show _ ≤ _; omega) (.int .u8 k1)).set (b := w.heap.size + 1) (i := 1) (by show _ ≤ _; omega) (.string t1)).set (b := w.heap.size + 1) (i := 2) (by show _ ≤ _; omega) (.int .i64 n1') |>.set (b := w.heap.size + 1) (i := 3) (by show _ ≤ _; omega) (.int .i64 0)
        clear HU Hz Hy y0 y1 y2 y3 yf0 yf1 yf2 yf3 z0 z1 z2 z3 zf0 zf1 zf2 zf3
        revert Hz2 Hy2 HU2
        generalize ((((w1.setCell ⟨w.heap.size + 1, 0, none⟩ (.int .u8 k1)).setCell ⟨w.heap.size + 1, 1, none⟩ (.string t1)).setCell ⟨w.heap.size + 1, 2, none⟩ (.int .i64 n1')).setCell ⟨w.heap.size + 1, 3, none⟩ (.int .i64 0)) = v
        intro Hz2 Hy2 HU2
        obtain ⟨y0, y1, y2, y3, yf0, yf1, yf2, yf3⟩ := blk4f Hy2
        obtain ⟨z0, z1, z2, z3, zf0, zf1, zf2, zf3⟩ := blk4f Hz2
        replace Hz2 := Lib.hid Hz2
        replace Hy2 := Lib.hid Hy2
        replace HU2 := Lib.hid HU2
        go_wp2_with (fail)
        (refine bodyPost_ret (results_cell_tmp2' rfl _ _ w.heap.size 34 #[.int .u8 k1, .string t1, .int .i64 n1', .int .i64 b] _ rfl (by exact bset4 (bother Hy2.out (by omega) _)) Try.underlying34 rfl size34 (.int .i64 k) (.int .i64 0) rfl rfl) rfl ⟨rfl, ?_⟩; refine Upd.mono (F := fun k => w.heap.size ≤ k) ?_ (fun i hi (hx : w.heap.size ≤ i) => absurd hi (by omega)); repeat (with_reducible first | exact HU2.out | refine Upd.set ?_ (by show _ ≤ _; omega) _))
      · have hkE2 : wordEnd s (k + 1) = E := by rw [hwe, if_pos ⟨hl2, hd⟩]
        have hle := (wordEnd_le s _ (k + 1) rfl (by omega)).1
        rw [hkE2] at hle
        have HK := Lib.hid hkE2
        clear hwe hall hkE2
        go_wp2_with (go_at_call 22; refine (isWord_calls _ _).mono ?_; rintro e w1 ⟨rfl, rfl⟩)
        go_round
        case rel => exact ⟨k + 1, by omega, by omega, by go_num, HK.out⟩
        case measure => simp [intOf]; omega
    · have hkE2 : k = E := by rw [← hall, wordEnd, if_neg (fun x => hl2 x.1)]
      have HKS := Lib.hid (show k = s.size by omega)
      clear hall
      subst hkE2
      have b0 : (0 : Int) ≤ b := by omega
      have b1 : (b : Int) ≤ k := by omega
      have b2 : (k : Int) ≤ s.size := by omega
      have b3 : ¬ (k : Int) < s.size := by omega
      clear hl2
      go_upto_region 17 with (first | (go_at_call 22; refine (isWord_calls _ _).mono ?_; rintro e w1 ⟨rfl, rfl⟩) | (go_at_call 23; refine (hw.out _).mono ?_; rintro e w1 ⟨rfl, hu⟩; obtain ⟨y0, y1, y2, y3, yf0, yf1, yf2, yf3⟩ := blk4f (hu.heap (k := w.heap.size) (o := .cells #[.int .u8 0, .string ⟨#[]⟩, .int .i64 0, .int .i64 0] 34 (0, 0)) (by exact alloc1 _ _ _) (fun x => x)); have hy := hu.heap (k := w.heap.size) (o := .cells #[.int .u8 0, .string ⟨#[]⟩, .int .i64 0, .int .i64 0] 34 (0, 0)) (by exact alloc1 _ _ _) (fun x => x); have Hy := Lib.hid hy; clear hy; obtain ⟨z0, z1, z2, z3, zf0, zf1, zf2, zf3⟩ := blk4f (hu.heap (k := w.heap.size + 1) (o := .cells #[.int .u8 0, .string ⟨#[]⟩, .int .i64 0, .int .i64 0] 34 (0, 0)) (by exact alloc2 _ _ _) (fun x => x)); have hz := hu.heap (k := w.heap.size + 1) (o := .cells #[.int .u8 0, .string ⟨#[]⟩, .int .i64 0, .int .i64 0] 34 (0, 0)) (by exact alloc2 _ _ _) (fun x => x); have Hz := Lib.hid hz; clear hz; have HU := Lib.hid hu; clear hu))
      have Hz2 := bset4 (u0 := .int .u8 k1) (u1 := .string t1) (u2 := .int .i64 n1') (u3 := .int .i64 0) Hz.out
      have Hy2 := bother (b := w.heap.size + 1) (i := 3) (bother (b := w.heap.size + 1) (i := 2) (bother (b := w.heap.size + 1) (i := 1) (bother (b := w.heap.size + 1) (i := 0) Hy.out (by omega) (.int .u8 k1)) (by omega) (.string t1)) (by omega) (.int .i64 n1')) (by omega) (.int .i64 0)
      have HU2 : Upd (fun k => w.heap.size ≤ k) _ _ := (((Upd.trans' ((((Upd.refl (fun k => w.heap.size ≤ k) w).alloc _).alloc _)) HU.out (fun _ _ x => x.elim)).set (b := w.heap.size + 1) (i := 0) (by show _ ≤ _; omega) (.int .u8 k1)).set (b := w.heap.size + 1) (i := 1) (by show _ ≤ _; omega) (.string t1)).set (b := w.heap.size + 1) (i := 2) (by show _ ≤ _; omega) (.int .i64 n1') |>.set (b := w.heap.size + 1) (i := 3) (by show _ ≤ _; omega) (.int .i64 0)
      clear HU Hz Hy y0 y1 y2 y3 yf0 yf1 yf2 yf3 z0 z1 z2 z3 zf0 zf1 zf2 zf3
      revert Hz2 Hy2 HU2
      generalize ((((w1.setCell ⟨w.heap.size + 1, 0, none⟩ (.int .u8 k1)).setCell ⟨w.heap.size + 1, 1, none⟩ (.string t1)).setCell ⟨w.heap.size + 1, 2, none⟩ (.int .i64 n1')).setCell ⟨w.heap.size + 1, 3, none⟩ (.int .i64 0)) = v
      intro Hz2 Hy2 HU2
      obtain ⟨y0, y1, y2, y3, yf0, yf1, yf2, yf3⟩ := blk4f Hy2
      obtain ⟨z0, z1, z2, z3, zf0, zf1, zf2, zf3⟩ := blk4f Hz2
      replace Hz2 := Lib.hid Hz2
      replace Hy2 := Lib.hid Hy2
      replace HU2 := Lib.hid HU2
      go_wp2_with (fail)
      (refine bodyPost_ret (results_cell_tmp2' rfl _ _ w.heap.size 34 #[.int .u8 k1, .string t1, .int .i64 n1', .int .i64 b] _ rfl (by exact bset4 (bother Hy2.out (by omega) _)) Try.underlying34 rfl size34 (.int .i64 k) (.int .i64 0) rfl rfl) rfl ⟨rfl, ?_⟩; refine Upd.mono (F := fun k => w.heap.size ≤ k) ?_ (fun i hi (hx : w.heap.size ≤ i) => absurd hi (by omega)); repeat (with_reducible first | exact HU2.out | refine Upd.set ?_ (by show _ ≤ _; omega) _))

set_option maxHeartbeats 300000 in
theorem next_worderr (s : ByteArray) (hs : Small s) (a : Nat) (ha : a ≤ s.size) (b : Nat) (hb : skipG s false a = b) (hlt : b < s.size) (c : Int) (hc : at' s b = c) (n0 : (c == 40) = false) (n1 : (c == 41) = false) (n2 : (c == 39) = false) (hwc : isWI c = true)
    (E : Nat) (hE : wordEnd s (b + 1) = E) (e1 k1 n1' : Int) (t1 : ByteArray) (hw0 : ∀ w, Calls Try.prog 23 #[.string (s.extract b E)] w fun e w' => e = .returned (.tuple #[tokV k1 t1 n1' 0, .int .i64 e1]) ∧ New w w') (he : (e1 != 0) = true) (w : World) :
    Calls Try.prog 26 #[.string s, .int .i64 a] w fun e w' => e = .returned (.tuple #[tokV 0 ⟨#[]⟩ 0 0, .int .i64 b, .int .i64 e1]) ∧ New w w' := by
  have hsz := hs.le
  have hsk0 := skip_calls s hs a ha
  rw [hb] at hsk0
  have hsk := Lib.hid hsk0
  have hbl : b ≤ s.size := by omega
  have hEb : b < E ∧ E ≤ s.size := by have := wordEnd_le s _ (b + 1) rfl (by omega); omega
  obtain ⟨hE1, hE2⟩ := hEb
  clear hsk0 hb
  unfold tokV at hw0
  have hw := Lib.hid hw0
  have HE := Lib.hid hE
  clear hw0 hE
  have hv := at_eq s b hlt
  rw [hc] at hv
  go_enter Try.func26, Try.ntmps26
  go_wp2_with (first | (go_at_call 53; refine (hsk.out _).mono ?_; rintro e w1 ⟨rfl, rfl⟩) | (go_at_call 22; refine (isWord_calls _ _).mono ?_; rintro e w1 ⟨rfl, rfl⟩))
  go_loop [8] (fun i => ∃ k : Nat, b < k ∧ k ≤ E ∧ i = .int .i64 k ∧ wordEnd s k = E) (fun i => s.size - (intOf i).toNat)
  case atStart => exact ⟨b + 1, by omega, by omega, by simp, HE.out⟩
  case round =>
    obtain ⟨k, hbk, hkE, rfl, hall⟩ := hrel
    have hk : k ≤ s.size := by omega
    by_cases hl2 : k < s.size
    · have hv2 := at_eq s k hl2
      have hwe := wordEnd.eq_def s k
      rw [hall] at hwe
      generalize hc2 : at' s k = c2 at *
      cases hd : isWI c2
      · have hkE2 : k = E := by rw [hwe, if_neg (fun x => by rw [hd] at x; exact absurd x.2 (by simp))]
        clear hwe hall
        subst hkE2
        have b0 : (0 : Int) ≤ b := by omega
        have b1 : (b : Int) ≤ k := by omega
        have b2 : (k : Int) ≤ s.size := by omega
        go_upto_region 17 with (first | (go_at_call 22; refine (isWord_calls _ _).mono ?_; rintro e w1 ⟨rfl, rfl⟩) | (go_at_call 23; refine (hw.out _).mono ?_; rintro e w1 ⟨rfl, hu⟩; obtain ⟨y0, y1, y2, y3, yf0, yf1, yf2, yf3⟩ := blk4f (hu.heap (k := w.heap.size) (o := .cells #[.int .u8 0, .string ⟨#[]⟩, .int .i64 0, .int .i64 0] 34 (0, 0)) (by exact alloc1 _ _ _) (fun x => x)); have hy := hu.heap (k := w.heap.size) (o := .cells #[.int .u8 0, .string ⟨#[]⟩, .int .i64 0, .int .i64 0] 34 (0, 0)) (by exact alloc1 _ _ _) (fun x => x); have Hy := Lib.hid hy; clear hy; obtain ⟨z0, z1, z2, z3, zf0, zf1, zf2, zf3⟩ := blk4f (hu.heap (k := w.heap.size + 1) (o := .cells #[.int .u8 0, .string ⟨#[]⟩, .int .i64 0, .int .i64 0] 34 (0, 0)) (by exact alloc2 _ _ _) (fun x => x)); have hz := hu.heap (k := w.heap.size + 1) (o := .cells #[.int .u8 0, .string ⟨#[]⟩, .int .i64 0, .int .i64 0] 34 (0, 0)) (by exact alloc2 _ _ _) (fun x => x); have Hz := Lib.hid hz; clear hz; have HU := Lib.hid hu; clear hu))
        have Hz2 := bset4 (u0 := .int .u8 k1) (u1 := .string t1) (u2 := .int .i64 n1') (u3 := .int .i64 0) Hz.out
        have Hy2 := bother (b := w.heap.size + 1) (i := 3) (bother (b := w.heap.size + 1) (i := 2) (bother (b := w.heap.size + 1) (i := 1) (bother (b := w.heap.size + 1) (i := 0) Hy.out (by omega) (.int .u8 k1)) (by omega) (.string t1)) (by omega) (.int .i64 n1')) (by omega) (.int .i64 0)
        have HU2 : Upd (fun k => w.heap.size ≤ k) _ _ := (((Upd.trans' ((((Upd.refl (fun k => w.heap.size ≤ k) w).alloc _).alloc _)) HU.out (fun _ _ x => x.elim)).set (b := w.heap.size + 1) (i := 0) (by show _ ≤ _; omega) (.int .u8 k1)).set (b := w.heap.size + 1) (i := 1) (by show _ ≤ _; omega) (.string t1)).set (b := w.heap.size + 1) (i := 2) (by show _ ≤ _; omega) (.int .i64 n1') |>.set (b := w.heap.size + 1) (i := 3) (by show _ ≤ _; omega) (.int .i64 0)
        clear HU Hz Hy y0 y1 y2 y3 yf0 yf1 yf2 yf3 z0 z1 z2 z3 zf0 zf1 zf2 zf3
        revert Hz2 Hy2 HU2
        generalize ((((w1.setCell ⟨w.heap.size + 1, 0, none⟩ (.int .u8 k1)).setCell ⟨w.heap.size + 1, 1, none⟩ (.string t1)).setCell ⟨w.heap.size + 1, 2, none⟩ (.int .i64 n1')).setCell ⟨w.heap.size + 1, 3, none⟩ (.int .i64 0)) = v
        intro Hz2 Hy2 HU2
        obtain ⟨y0, y1, y2, y3, yf0, yf1, yf2, yf3⟩ := blk4f Hy2
        obtain ⟨z0, z1, z2, z3, zf0, zf1, zf2, zf3⟩ := blk4f Hz2
        replace Hz2 := Lib.hid Hz2
        replace Hy2 := Lib.hid Hy2
        replace HU2 := Lib.hid HU2
        go_wp2_with (fail)
        (refine bodyPost_ret (results_cell_tmp2' rfl _ _ w.heap.size 34 #[.int .u8 0, .string ⟨#[]⟩, .int .i64 0, .int .i64 0] _ rfl (by exact bset4 (bother Hy2.out (by omega) _)) Try.underlying34 rfl size34 (.int .i64 b) (.int .i64 e1) rfl rfl) rfl ⟨rfl, ?_⟩; refine Upd.mono (F := fun k => w.heap.size ≤ k) ?_ (fun i hi (hx : w.heap.size ≤ i) => absurd hi (by omega)); repeat (with_reducible first | exact HU2.out | refine Upd.set ?_ (by show _ ≤ _; omega) _))
      · have hkE2 : wordEnd s (k + 1) = E := by rw [hwe, if_pos ⟨hl2, hd⟩]
        have hle := (wordEnd_le s _ (k + 1) rfl (by omega)).1
        rw [hkE2] at hle
        have HK := Lib.hid hkE2
        clear hwe hall hkE2
        go_wp2_with (go_at_call 22; refine (isWord_calls _ _).mono ?_; rintro e w1 ⟨rfl, rfl⟩)
        go_round
        case rel => exact ⟨k + 1, by omega, by omega, by go_num, HK.out⟩
        case measure => simp [intOf]; omega
    · have hkE2 : k = E := by rw [← hall, wordEnd, if_neg (fun x => hl2 x.1)]
      have HKS := Lib.hid (show k = s.size by omega)
      clear hall
      subst hkE2
      have b0 : (0 : Int) ≤ b := by omega
      have b1 : (b : Int) ≤ k := by omega
      have b2 : (k : Int) ≤ s.size := by omega
      have b3 : ¬ (k : Int) < s.size := by omega
      clear hl2
      go_upto_region 17 with (first | (go_at_call 22; refine (isWord_calls _ _).mono ?_; rintro e w1 ⟨rfl, rfl⟩) | (go_at_call 23; refine (hw.out _).mono ?_; rintro e w1 ⟨rfl, hu⟩; obtain ⟨y0, y1, y2, y3, yf0, yf1, yf2, yf3⟩ := blk4f (hu.heap (k := w.heap.size) (o := .cells #[.int .u8 0, .string ⟨#[]⟩, .int .i64 0, .int .i64 0] 34 (0, 0)) (by exact alloc1 _ _ _) (fun x => x)); have hy := hu.heap (k := w.heap.size) (o := .cells #[.int .u8 0, .string ⟨#[]⟩, .int .i64 0, .int .i64 0] 34 (0, 0)) (by exact alloc1 _ _ _) (fun x => x); have Hy := Lib.hid hy; clear hy; obtain ⟨z0, z1, z2, z3, zf0, zf1, zf2, zf3⟩ := blk4f (hu.heap (k := w.heap.size + 1) (o := .cells #[.int .u8 0, .string ⟨#[]⟩, .int .i64 0, .int .i64 0] 34 (0, 0)) (by exact alloc2 _ _ _) (fun x => x)); have hz := hu.heap (k := w.heap.size + 1) (o := .cells #[.int .u8 0, .string ⟨#[]⟩, .int .i64 0, .int .i64 0] 34 (0, 0)) (by exact alloc2 _ _ _) (fun x => x); have Hz := Lib.hid hz; clear hz; have HU := Lib.hid hu; clear hu))
      have Hz2 := bset4 (u0 := .int .u8 k1) (u1 := .string t1) (u2 := .int .i64 n1') (u3 := .int .i64 0) Hz.out
      have Hy2 := bother (b := w.heap.size + 1) (i := 3) (bother (b := w.heap.size + 1) (i := 2) (bother (b := w.heap.size + 1) (i := 1) (bother (b := w.heap.size + 1) (i := 0) Hy.out (by omega) (.int .u8 k1)) (by omega) (.string t1)) (by omega) (.int .i64 n1')) (by omega) (.int .i64 0)
      have HU2 : Upd (fun k => w.heap.size ≤ k) _ _ := (((Upd.trans' ((((Upd.refl (fun k => w.heap.size ≤ k) w).alloc _).alloc _)) HU.out (fun _ _ x => x.elim)).set (b := w.heap.size + 1) (i := 0) (by show _ ≤ _; omega) (.int .u8 k1)).set (b := w.heap.size + 1) (i := 1) (by show _ ≤ _; omega) (.string t1)).set (b := w.heap.size + 1) (i := 2) (by show _ ≤ _; omega) (.int .i64 n1') |>.set (b := w.heap.size + 1) (i := 3) (by show _ ≤ _; omega) (.int .i64 0)
      clear HU Hz Hy y0 y1 y2 y3 yf0 yf1 yf2 yf3 z0 z1 z2 z3 zf0 zf1 zf2 zf3
      revert Hz2 Hy2 HU2
      generalize ((((w1.setCell ⟨w.heap.size + 1, 0, none⟩ (.int .u8 k1)).setCell ⟨w.heap.size + 1, 1, none⟩ (.string t1)).setCell ⟨w.heap.size + 1, 2, none⟩ (.int .i64 n1')).setCell ⟨w.heap.size + 1, 3, none⟩ (.int .i64 0)) = v
      intro Hz2 Hy2 HU2
      obtain ⟨y0, y1, y2, y3, yf0, yf1, yf2, yf3⟩ := blk4f Hy2
      obtain ⟨z0, z1, z2, z3, zf0, zf1, zf2, zf3⟩ := blk4f Hz2
      replace Hz2 := Lib.hid Hz2
      replace Hy2 := Lib.hid Hy2
      replace HU2 := Lib.hid HU2
      go_wp2_with (fail)
      (refine bodyPost_ret (results_cell_tmp2' rfl _ _ w.heap.size 34 #[.int .u8 0, .string ⟨#[]⟩, .int .i64 0, .int .i64 0] _ rfl (by exact bset4 (bother Hy2.out (by omega) _)) Try.underlying34 rfl size34 (.int .i64 b) (.int .i64 e1) rfl rfl) rfl ⟨rfl, ?_⟩; refine Upd.mono (F := fun k => w.heap.size ≤ k) ?_ (fun i hi (hx : w.heap.size ≤ i) => absurd hi (by omega)); repeat (with_reducible first | exact HU2.out | refine Upd.set ?_ (by show _ ≤ _; omega) _))

end Go.Proofs.Ytecoahdeafobkaa
