/- Read: a datum and a list. -/
import Derived.Test.YtnnjhafjcdjobaaRdB
import Derived.Deep.DeepCutAuto
namespace Go.Proofs.Ytnnjhafjcdjobaa
open Go.RowKit
set_option linter.unusedVariables false
set_option linter.unusedSimpArgs false

theorem results_cell1 {P : Program} {fn : Func} {p : Tmp} {ty : TypeId} (h : fn.results = #[.cell p ty]) (tmps : Array Value) (w : World) (g : Nat) (t : TypeId) (cs : Array Value) (d : TypeDesc)
    (hp : tmps.getD p undef = .pointer (some ⟨g, 0, none⟩)) (hg : w.heap[g]? = some (.cells cs t (0, 0)))
    (hu : P.underlying ty = some d) (hd : (match d with | .struct _ | .array _ _ => true | _ => false) = true) (hi : (P.info? ty).map (·.size) = some cs.size) :
    (results fn tmps).run P w = .ok (.agg cs) w := by
  have hp' : tmps[p]?.getD undef = .pointer (some ⟨g, 0, none⟩) := by simpa using hp
  simp [results, h, hp', asAddr, run_loadVar_row w g t ty cs (0, 0) d hg hu hd hi]
theorem size58 : (Try.prog.info? 58).map (·.size) = some 5 := by kernel_rfl
theorem info58 : (Try.prog.info? 58).map (fun i => (i.zero, i.size, i.bytes)) = some (some (.agg #[.int .u8 0, .int .i64 0, .string ⟨#[]⟩, .slice none 0 0, .bool false]), 5, 64) := by kernel_rfl

theorem halloc {w : World} {g : Nat} {o : Obj} (h : w.heap[g]? = some o) (o1 : Obj) : (w.alloc o1).heap[g]? = some o :=
  (Below.heap_alloc _ _ _ (Array.getElem?_eq_some_iff.1 h).1).trans h
theorem Toks.alloc {w : World} {g : Nat} {L : List Tok} (h : Toks w g L) (o : Obj) : Toks (w.alloc o) g L := h.new ((Upd.refl (fun _ => False) w).alloc o)
theorem Toks.upd {w w' : World} {g : Nat} {L : List Tok} {F : Nat → Prop} (h : Toks w g L) (hn : Upd F w w') (hf : ¬ F g) : Toks w' g L :=
  ⟨Nat.lt_of_lt_of_le h.1 hn.size, fun j u hj => hn.cell (h.2 j u hj) hf⟩

theorem alloc31 (w : World) (o1 o2 o3 : Obj) : (((w.alloc o1).alloc o2).alloc o3).heap[w.heap.size]? = some o1 := (Below.heap_alloc _ _ _ (by simp; omega)).trans (alloc1 w o1 o2)
theorem alloc32 (w : World) (o1 o2 o3 : Obj) : (((w.alloc o1).alloc o2).alloc o3).heap[w.heap.size + 1]? = some o2 := (Below.heap_alloc _ _ _ (by simp)).trans (alloc2 w o1 o2)
theorem alloc33 (w : World) (o1 o2 o3 : Obj) : (((w.alloc o1).alloc o2).alloc o3).heap[w.heap.size + 1 + 1]? = some o3 := by have := heap_alloc_new ((w.alloc o1).alloc o2) o3; simpa using this
theorem blk5 {w : World} {b : Nat} {t : TypeId} {v0 v1 v2 v3 v4 : Value} (h : w.heap[b]? = some (.cells #[v0, v1, v2, v3, v4] t (0, 0))) :
    (w.cell? ⟨b, 0, none⟩ = some v0 ∧ w.cell? ⟨b, 1, none⟩ = some v1 ∧ w.cell? ⟨b, 2, none⟩ = some v2 ∧ w.cell? ⟨b, 3, none⟩ = some v3 ∧ w.cell? ⟨b, 4, none⟩ = some v4) ∧ ∀ o, w.frozen? ⟨b, o, none⟩ = false := by
  refine ⟨⟨?_, ?_, ?_, ?_, ?_⟩, fun o => ?_⟩ <;> simp [World.cell?, World.frozen?, h]
theorem bset5 {w : World} {g : Nat} {t : TypeId} {c0 c1 c2 c3 c4 u0 u1 u2 u3 u4 : Value} (h : w.heap[g]? = some (.cells #[c0, c1, c2, c3, c4] t (0, 0))) :
    (((((w.setCell ⟨g, 0, none⟩ u0).setCell ⟨g, 1, none⟩ u1).setCell ⟨g, 2, none⟩ u2).setCell ⟨g, 3, none⟩ u3).setCell ⟨g, 4, none⟩ u4).heap[g]? = some (.cells #[u0, u1, u2, u3, u4] t (0, 0)) := by
  have := bset (bset (bset (bset (bset h 0 u0) 1 u1) 2 u2) 3 u3) 4 u4
  simpa using this
theorem bother5 {w : World} {g b : Nat} {o : Obj} {u0 u1 u2 u3 u4 : Value} (hne : g ≠ b) (h : w.heap[g]? = some o) :
    (((((w.setCell ⟨b, 0, none⟩ u0).setCell ⟨b, 1, none⟩ u1).setCell ⟨b, 2, none⟩ u2).setCell ⟨b, 3, none⟩ u3).setCell ⟨b, 4, none⟩ u4).heap[g]? = some o :=
  bother (bother (bother (bother (bother h hne _) hne _) hne _) hne _) hne _
theorem Upd.new {F : Nat → Prop} {a w : World} (h : Upd F a w) {b i : Nat} (hb : a.heap.size ≤ b) (u : Value) : Upd F a (w.setCell ⟨b, i, none⟩ u) := h.setCell (p := ⟨b, i, none⟩) (fun x => absurd x (by show ¬ b < _; omega)) u
theorem upd5 {F : Nat → Prop} {a w : World} {b : Nat} {u0 u1 u2 u3 u4 : Value} (hb : a.heap.size ≤ b) (h : Upd F a w) :
    Upd F a (((((w.setCell ⟨b, 0, none⟩ u0).setCell ⟨b, 1, none⟩ u1).setCell ⟨b, 2, none⟩ u2).setCell ⟨b, 3, none⟩ u3).setCell ⟨b, 4, none⟩ u4) := ((((h.new hb _).new hb _).new hb _).new hb _).new hb _
theorem count_ok' (w : World) (pb tg tl tc : Nat) (i o : Int) (m n : Nat) (hp : Par w pb tg tl tc i o m) (h : m + n ≤ 10000) :
    Calls Try.prog 103 #[.pointer (some ⟨pb, 0, none⟩), .int .i64 n] w fun e w' => e = .returned (.tuple #[]) ∧ Par w' pb tg tl tc i o (m + n : Nat) ∧ Upd (fun b => b = pb) w w' :=
  (count_ok w pb tg tl tc i o m n hp h).mono fun e w' ⟨he, hw⟩ => ⟨he, by rw [hw]; exact (par_set hp).2.2 _, by rw [hw]; exact (Upd.refl (fun b => b = pb) w).set rfl _⟩

set_option maxHeartbeats 2000000 in
theorem datum_leaf (L : List Tok) (w : World) (pb tg tc i : Nat) (o m : Nat) (hp : Par w pb tg L.length tc i o m) (ht : Toks w tg L) (hi : i < L.length) (hl : (L.length : Int) ≤ 1048577) (h : m + 1 ≤ 10000) (hk : tokK L i = 5 ∨ tokK L i = 6 ∨ tokK L i = 7 ∨ tokK L i = 8) :
    Calls Try.prog 54 #[.pointer (some ⟨pb, 0, none⟩)] w fun e w' => e = .returned (datV (leafD L i) (.slice none 0 0)) ∧ Par w' pb tg L.length tc (i + 1 : Nat) o (m + 1 : Nat) ∧ Upd (fun b => b = pb) w w' := by
  obtain ⟨z0, z1, z2, z3, zf0, zf1, zf2, zf3⟩ := blk4f hp
  obtain ⟨t0, t1, t2, t3⟩ := tok_kind ht hi
  have i0 : (0 : Int) ≤ i := by omega
  have i1 : (i : Int) < L.length := by omega
  have hpl := hp.lt
  have htl := ht.1
  have HP := Lib.hid hp
  have HT := Lib.hid ht
  have HI := Lib.hid hi
  clear hp ht hi
  unfold leafD
  generalize tokK L i = k at *
  rcases hk with rfl | rfl | rfl | rfl
  all_goals
    go_enter Try.func54, Try.ntmps54
    go_wp2_with fail
    first
      | go_region_held3 (fun w' => w'.cell? ⟨pb, 0, none⟩ = some (.slice (some ⟨tg, 0, none⟩) L.length tc) ∧ w'.cell? ⟨pb, 1, none⟩ = some (.int .i64 i) ∧ w'.cell? ⟨tg, i * 4, none⟩ = some (.int .u8 5) ∧ w'.cell? ⟨tg, i * 4 + 1, none⟩ = some (.string (tokT L i)) ∧ w'.cell? ⟨tg, i * 4 + 2, none⟩ = some (.int .i64 (tokN L i)) ∧ w'.cell? ⟨tg, i * 4 + 3, none⟩ = some (.int .i64 (tokA L i))) (go_keep) (fail)
      | go_region_held3 (fun w' => w'.cell? ⟨pb, 0, none⟩ = some (.slice (some ⟨tg, 0, none⟩) L.length tc) ∧ w'.cell? ⟨pb, 1, none⟩ = some (.int .i64 i) ∧ w'.cell? ⟨tg, i * 4, none⟩ = some (.int .u8 6) ∧ w'.cell? ⟨tg, i * 4 + 1, none⟩ = some (.string (tokT L i)) ∧ w'.cell? ⟨tg, i * 4 + 2, none⟩ = some (.int .i64 (tokN L i)) ∧ w'.cell? ⟨tg, i * 4 + 3, none⟩ = some (.int .i64 (tokA L i))) (go_keep) (fail)
      | go_region_held3 (fun w' => w'.cell? ⟨pb, 0, none⟩ = some (.slice (some ⟨tg, 0, none⟩) L.length tc) ∧ w'.cell? ⟨pb, 1, none⟩ = some (.int .i64 i) ∧ w'.cell? ⟨tg, i * 4, none⟩ = some (.int .u8 7) ∧ w'.cell? ⟨tg, i * 4 + 1, none⟩ = some (.string (tokT L i)) ∧ w'.cell? ⟨tg, i * 4 + 2, none⟩ = some (.int .i64 (tokN L i)) ∧ w'.cell? ⟨tg, i * 4 + 3, none⟩ = some (.int .i64 (tokA L i))) (go_keep) (fail)
      | go_region_held3 (fun w' => w'.cell? ⟨pb, 0, none⟩ = some (.slice (some ⟨tg, 0, none⟩) L.length tc) ∧ w'.cell? ⟨pb, 1, none⟩ = some (.int .i64 i) ∧ w'.cell? ⟨tg, i * 4, none⟩ = some (.int .u8 8) ∧ w'.cell? ⟨tg, i * 4 + 1, none⟩ = some (.string (tokT L i)) ∧ w'.cell? ⟨tg, i * 4 + 2, none⟩ = some (.int .i64 (tokN L i)) ∧ w'.cell? ⟨tg, i * 4 + 3, none⟩ = some (.int .i64 (tokA L i))) (go_keep) (fail)
    go_wp2_with fail
    refine (count_ok' _ pb tg L.length tc i o m 1 (by exact halloc (halloc (halloc HP.out _) _) _) h).mono ?_
    rintro e w1 ⟨rfl, hp1, hu1⟩
    have ha := hu1.heap (k := w.heap.size) (by exact alloc31 _ _ _ _) (by show ¬ _ = pb; omega)
    have hc := hu1.heap (k := w.heap.size + 1 + 1) (by exact alloc33 _ _ _ _) (by show ¬ _ = pb; omega)
    have hsz1 := hu1.size
    have HU := Lib.hid ((Upd.refl (fun b => b = pb) w).trans' (((((Upd.refl (fun b => b = pb) w).alloc _).drew).alloc _).alloc _ |>.trans hu1) (fun _ _ x => x))
    clear z0 z1 z2 z3 zf0 zf1 zf2 zf3 t0 t1 t2 t3 hu1
    obtain ⟨y0, y1, y2, y3, yf0, yf1, yf2, yf3⟩ := blk4f hp1
    obtain ⟨⟨a0, a1, a2, a3, a4⟩, af⟩ := blk5 ha
    obtain ⟨⟨c0, c1, c2, c3, c4⟩, cf⟩ := blk5 hc
    have HP1 := Lib.hid hp1
    have HA := Lib.hid ha
    clear hp1 ha hc
    go_wp2_with fail
    have hne : w.heap.size ≠ pb := by omega
    refine bodyPost_ret (results_cell1 rfl _ _ w.heap.size 58 #[_, _, _, _, _] _ rfl (by exact bset5 (bother HA.out hne _)) Try.underlying58 rfl size58) rfl ⟨rfl, ?_, ?_⟩
    · exact bother5 (hne.symm) ((par_set HP1.out).1 _)
    · exact upd5 (Nat.le_refl _) (HU.out.set rfl _)
end Go.Proofs.Ytnnjhafjcdjobaa
