/- Read: a datum that begins with a bracket or a quote. -/
import Derived.Test.YtnnjhafjcdjobaaRdD
namespace Go.Proofs.Ytnnjhafjcdjobaa
open Go.RowKit
set_option linter.unusedVariables false
set_option linter.unusedSimpArgs false

theorem datum_open_deep (L : List Tok) (w : World) (pb tg tc i : Nat) (o m : Nat) (hp : Par w pb tg L.length tc i o m) (ht : Toks w tg L) (hi : i < L.length) (hl : (L.length : Int) ≤ 1048577) (hne : tg ≠ pb) (hk : tokK L i = 1) (ho : 100 ≤ o) :
    Calls Try.prog 54 #[.pointer (some ⟨pb, 0, none⟩)] w (DatBad w pb 61 (tokA L i)) := by
  obtain ⟨z0, z1, z2, z3, zf0, zf1, zf2, zf3⟩ := blk4f hp
  obtain ⟨t0, t1, t2, t3⟩ := tok_kind ht hi
  rw [hk] at t0
  have i0 : (0 : Int) ≤ i := by omega
  have i1 : (i : Int) < L.length := by omega
  have hpl := hp.lt
  have htl := ht.1
  have HP := Lib.hid hp
  have HT := Lib.hid ht
  have HI := Lib.hid hi
  clear hp ht hi hk
  go_enter Try.func54, Try.ntmps54
  go_wp2_with fail
  go_region_held3 (fun w' => w'.cell? ⟨pb, 0, none⟩ = some (.slice (some ⟨tg, 0, none⟩) L.length tc) ∧ w'.cell? ⟨pb, 1, none⟩ = some (.int .i64 i) ∧ w'.cell? ⟨tg, i * 4, none⟩ = some (.int .u8 1) ∧ w'.cell? ⟨tg, i * 4 + 1, none⟩ = some (.string (tokT L i)) ∧ w'.cell? ⟨tg, i * 4 + 2, none⟩ = some (.int .i64 (tokN L i)) ∧ w'.cell? ⟨tg, i * 4 + 3, none⟩ = some (.int .i64 (tokA L i))) (go_keep) (fail)
  go_wp2_with fail
  refine (opens_deep L _ pb tg tc i o m 1 (by exact halloc (halloc (halloc HP.out _) _) _) (by exact ((HT.out.alloc _).alloc _).alloc _) HI.out hl ho).mono ?_
  rintro e w1 ⟨rfl, hu1⟩
  exact ⟨rfl, rfl, (Upd.refl (fun b => b = pb) w).trans' (((((Upd.refl (fun b => b = pb) w).alloc _).drew).alloc _).alloc _ |>.trans hu1) (fun _ _ x => x)⟩
theorem datum_open_much (L : List Tok) (w : World) (pb tg tc i : Nat) (o m : Nat) (hp : Par w pb tg L.length tc i o m) (ht : Toks w tg L) (hi : i < L.length) (hl : (L.length : Int) ≤ 1048577) (hne : tg ≠ pb) (hk : tokK L i = 1) (ho : o < 100) (h : 10000 < m + 1) (hm : m ≤ 10000) :
    Calls Try.prog 54 #[.pointer (some ⟨pb, 0, none⟩)] w (DatBad w pb 62 (tokA L i)) := by
  obtain ⟨z0, z1, z2, z3, zf0, zf1, zf2, zf3⟩ := blk4f hp
  obtain ⟨t0, t1, t2, t3⟩ := tok_kind ht hi
  rw [hk] at t0
  have i0 : (0 : Int) ≤ i := by omega
  have i1 : (i : Int) < L.length := by omega
  have hpl := hp.lt
  have htl := ht.1
  have HP := Lib.hid hp
  have HT := Lib.hid ht
  have HI := Lib.hid hi
  clear hp ht hi hk
  go_enter Try.func54, Try.ntmps54
  go_wp2_with fail
  go_region_held3 (fun w' => w'.cell? ⟨pb, 0, none⟩ = some (.slice (some ⟨tg, 0, none⟩) L.length tc) ∧ w'.cell? ⟨pb, 1, none⟩ = some (.int .i64 i) ∧ w'.cell? ⟨tg, i * 4, none⟩ = some (.int .u8 1) ∧ w'.cell? ⟨tg, i * 4 + 1, none⟩ = some (.string (tokT L i)) ∧ w'.cell? ⟨tg, i * 4 + 2, none⟩ = some (.int .i64 (tokN L i)) ∧ w'.cell? ⟨tg, i * 4 + 3, none⟩ = some (.int .i64 (tokA L i))) (go_keep) (fail)
  go_wp2_with fail
  refine (opens_much L _ pb tg tc i o m 1 (by exact halloc (halloc (halloc HP.out _) _) _) (by exact ((HT.out.alloc _).alloc _).alloc _) HI.out hl hne ho h (by omega)).mono ?_
  rintro e w1 ⟨rfl, hu1⟩
  exact ⟨rfl, rfl, (Upd.refl (fun b => b = pb) w).trans' (((((Upd.refl (fun b => b = pb) w).alloc _).drew).alloc _).alloc _ |>.trans hu1) (fun _ _ x => x)⟩
theorem datum_quote_deep (L : List Tok) (w : World) (pb tg tc i : Nat) (o m : Nat) (hp : Par w pb tg L.length tc i o m) (ht : Toks w tg L) (hi : i < L.length) (hl : (L.length : Int) ≤ 1048577) (hne : tg ≠ pb) (hk : tokK L i = 3) (ho : 100 ≤ o) :
    Calls Try.prog 54 #[.pointer (some ⟨pb, 0, none⟩)] w (DatBad w pb 61 (tokA L i)) := by
  obtain ⟨z0, z1, z2, z3, zf0, zf1, zf2, zf3⟩ := blk4f hp
  obtain ⟨t0, t1, t2, t3⟩ := tok_kind ht hi
  rw [hk] at t0
  have i0 : (0 : Int) ≤ i := by omega
  have i1 : (i : Int) < L.length := by omega
  have hpl := hp.lt
  have htl := ht.1
  have HP := Lib.hid hp
  have HT := Lib.hid ht
  have HI := Lib.hid hi
  clear hp ht hi hk
  go_enter Try.func54, Try.ntmps54
  go_wp2_with fail
  go_region_held3 (fun w' => w'.cell? ⟨pb, 0, none⟩ = some (.slice (some ⟨tg, 0, none⟩) L.length tc) ∧ w'.cell? ⟨pb, 1, none⟩ = some (.int .i64 i) ∧ w'.cell? ⟨tg, i * 4, none⟩ = some (.int .u8 3) ∧ w'.cell? ⟨tg, i * 4 + 1, none⟩ = some (.string (tokT L i)) ∧ w'.cell? ⟨tg, i * 4 + 2, none⟩ = some (.int .i64 (tokN L i)) ∧ w'.cell? ⟨tg, i * 4 + 3, none⟩ = some (.int .i64 (tokA L i))) (go_keep) (fail)
  go_wp2_with fail
  refine (opens_deep L _ pb tg tc i o m 2 (by exact halloc (halloc (halloc HP.out _) _) _) (by exact ((HT.out.alloc _).alloc _).alloc _) HI.out hl ho).mono ?_
  rintro e w1 ⟨rfl, hu1⟩
  exact ⟨rfl, rfl, (Upd.refl (fun b => b = pb) w).trans' (((((Upd.refl (fun b => b = pb) w).alloc _).drew).alloc _).alloc _ |>.trans hu1) (fun _ _ x => x)⟩
theorem datum_quote_much (L : List Tok) (w : World) (pb tg tc i : Nat) (o m : Nat) (hp : Par w pb tg L.length tc i o m) (ht : Toks w tg L) (hi : i < L.length) (hl : (L.length : Int) ≤ 1048577) (hne : tg ≠ pb) (hk : tokK L i = 3) (ho : o < 100) (h : 10000 < m + 2) (hm : m ≤ 10000) :
    Calls Try.prog 54 #[.pointer (some ⟨pb, 0, none⟩)] w (DatBad w pb 62 (tokA L i)) := by
  obtain ⟨z0, z1, z2, z3, zf0, zf1, zf2, zf3⟩ := blk4f hp
  obtain ⟨t0, t1, t2, t3⟩ := tok_kind ht hi
  rw [hk] at t0
  have i0 : (0 : Int) ≤ i := by omega
  have i1 : (i : Int) < L.length := by omega
  have hpl := hp.lt
  have htl := ht.1
  have HP := Lib.hid hp
  have HT := Lib.hid ht
  have HI := Lib.hid hi
  clear hp ht hi hk
  go_enter Try.func54, Try.ntmps54
  go_wp2_with fail
  go_region_held3 (fun w' => w'.cell? ⟨pb, 0, none⟩ = some (.slice (some ⟨tg, 0, none⟩) L.length tc) ∧ w'.cell? ⟨pb, 1, none⟩ = some (.int .i64 i) ∧ w'.cell? ⟨tg, i * 4, none⟩ = some (.int .u8 3) ∧ w'.cell? ⟨tg, i * 4 + 1, none⟩ = some (.string (tokT L i)) ∧ w'.cell? ⟨tg, i * 4 + 2, none⟩ = some (.int .i64 (tokN L i)) ∧ w'.cell? ⟨tg, i * 4 + 3, none⟩ = some (.int .i64 (tokA L i))) (go_keep) (fail)
  go_wp2_with fail
  refine (opens_much L _ pb tg tc i o m 2 (by exact halloc (halloc (halloc HP.out _) _) _) (by exact ((HT.out.alloc _).alloc _).alloc _) HI.out hl hne ho h (by omega)).mono ?_
  rintro e w1 ⟨rfl, hu1⟩
  exact ⟨rfl, rfl, (Upd.refl (fun b => b = pb) w).trans' (((((Upd.refl (fun b => b = pb) w).alloc _).drew).alloc _).alloc _ |>.trans hu1) (fun _ _ x => x)⟩

set_option maxHeartbeats 1000000 in
theorem datum_open_bad (L : List Tok) (w : World) (pb tg tc i : Nat) (o m : Nat) (hp : Par w pb tg L.length tc i o m) (ht : Toks w tg L) (hi : i < L.length) (hl : (L.length : Int) ≤ 1048577) (hne : tg ≠ pb) (hk : tokK L i = 1) (ho : o < 100) (h : m + 1 ≤ 10000) (er : Int) (ea : Nat)
    (hc : ∀ w, Par w pb tg L.length tc (i + 1 : Nat) (o + 1 : Nat) (m + 1 : Nat) → Toks w tg L → Calls Try.prog 101 #[.pointer (some ⟨pb, 0, none⟩)] w (DatBad w pb er ea)) :
    Calls Try.prog 54 #[.pointer (some ⟨pb, 0, none⟩)] w (DatBad w pb er ea) := by
  have HC := Lib.hid hc
  clear hc
  obtain ⟨z0, z1, z2, z3, zf0, zf1, zf2, zf3⟩ := blk4f hp
  obtain ⟨t0, t1, t2, t3⟩ := tok_kind ht hi
  rw [hk] at t0
  have i0 : (0 : Int) ≤ i := by omega
  have i1 : (i : Int) < L.length := by omega
  have hpl := hp.lt
  have htl := ht.1
  have HP := Lib.hid hp
  have HT := Lib.hid ht
  have HI := Lib.hid hi
  clear hp ht hi hk
  go_enter Try.func54, Try.ntmps54
  go_wp2_with fail
  go_region_held3 (fun w' => w'.cell? ⟨pb, 0, none⟩ = some (.slice (some ⟨tg, 0, none⟩) L.length tc) ∧ w'.cell? ⟨pb, 1, none⟩ = some (.int .i64 i) ∧ w'.cell? ⟨tg, i * 4, none⟩ = some (.int .u8 1) ∧ w'.cell? ⟨tg, i * 4 + 1, none⟩ = some (.string (tokT L i)) ∧ w'.cell? ⟨tg, i * 4 + 2, none⟩ = some (.int .i64 (tokN L i)) ∧ w'.cell? ⟨tg, i * 4 + 3, none⟩ = some (.int .i64 (tokA L i))) (go_keep) (fail)
  go_wp2_with fail
  refine (opens_ok _ pb tg L.length tc i o m 1 (by exact halloc (halloc (halloc HP.out _) _) _) h ho (by omega)).mono ?_
  rintro e w1 ⟨rfl, hp1, hu1⟩
  have HU1 := Lib.hid ((Upd.refl (fun b => b = pb) w).trans' (((((Upd.refl (fun b => b = pb) w).alloc _).drew).alloc _).alloc _ |>.trans hu1) (fun _ _ x => x))
  have HT1 := Lib.hid (HT.out.upd HU1.out hne)
  have HP1 := Lib.hid hp1
  clear z0 z1 z2 z3 zf0 zf1 zf2 zf3 t0 t1 t2 t3 hu1 hp1
  go_wp2_with fail
  refine (HC.out w1 HP1.out HT1.out).mono ?_
  rintro e w2 ⟨rfl, hu2⟩
  exact ⟨rfl, rfl, HU1.out.trans hu2⟩

set_option maxHeartbeats 1000000 in
theorem datum_open_ok (L : List Tok) (w : World) (pb tg tc i : Nat) (o m : Nat) (hp : Par w pb tg L.length tc i o m) (ht : Toks w tg L) (hi : i < L.length) (hl : (L.length : Int) ≤ 1048577) (hne : tg ≠ pb) (hk : tokK L i = 1) (ho : o < 100) (h : m + 1 ≤ 10000) (d : Dat) (i' m' : Nat)
    (hc : ∀ w, Par w pb tg L.length tc (i + 1 : Nat) (o + 1 : Nat) (m + 1 : Nat) → Toks w tg L → Calls Try.prog 101 #[.pointer (some ⟨pb, 0, none⟩)] w (DatOk w pb tg L.length tc d i' (o + 1) m')) :
    Calls Try.prog 54 #[.pointer (some ⟨pb, 0, none⟩)] w (DatOk w pb tg L.length tc (d) i' o m') := by
  have HC := Lib.hid hc
  clear hc
  obtain ⟨z0, z1, z2, z3, zf0, zf1, zf2, zf3⟩ := blk4f hp
  obtain ⟨t0, t1, t2, t3⟩ := tok_kind ht hi
  rw [hk] at t0
  have i0 : (0 : Int) ≤ i := by omega
  have i1 : (i : Int) < L.length := by omega
  have hpl := hp.lt
  have htl := ht.1
  have HP := Lib.hid hp
  have HT := Lib.hid ht
  have HI := Lib.hid hi
  clear hp ht hi hk
  go_enter Try.func54, Try.ntmps54
  go_wp2_with fail
  go_region_held3 (fun w' => w'.cell? ⟨pb, 0, none⟩ = some (.slice (some ⟨tg, 0, none⟩) L.length tc) ∧ w'.cell? ⟨pb, 1, none⟩ = some (.int .i64 i) ∧ w'.cell? ⟨tg, i * 4, none⟩ = some (.int .u8 1) ∧ w'.cell? ⟨tg, i * 4 + 1, none⟩ = some (.string (tokT L i)) ∧ w'.cell? ⟨tg, i * 4 + 2, none⟩ = some (.int .i64 (tokN L i)) ∧ w'.cell? ⟨tg, i * 4 + 3, none⟩ = some (.int .i64 (tokA L i))) (go_keep) (fail)
  go_wp2_with fail
  refine (opens_ok _ pb tg L.length tc i o m 1 (by exact halloc (halloc (halloc HP.out _) _) _) h ho (by omega)).mono ?_
  rintro e w1 ⟨rfl, hp1, hu1⟩
  have ha := hu1.heap (k := w.heap.size) (by exact alloc31 _ _ _ _) (by show ¬ _ = pb; omega)
  have HU1 := Lib.hid ((Upd.refl (fun b => b = pb) w).trans' (((((Upd.refl (fun b => b = pb) w).alloc _).drew).alloc _).alloc _ |>.trans hu1) (fun _ _ x => x))
  have HT1 := Lib.hid (HT.out.upd HU1.out hne)
  have HP1 := Lib.hid hp1
  have hwa := (Array.getElem?_eq_some_iff.1 ha).1
  have HA := Lib.hid ha
  clear z0 z1 z2 z3 zf0 zf1 zf2 zf3 t0 t1 t2 t3 hu1 hp1 ha
  go_wp2_with fail
  refine (HC.out w1 HP1.out HT1.out).mono ?_
  rintro e w2 ⟨kv, bs, rfl, hp2, hu2, hw2, hnd⟩
  obtain ⟨y0, y1, y2, y3, yf0, yf1, yf2, yf3⟩ := blk4f hp2
  have ha2 := hu2.heap HA.out (by show ¬ _ = pb; omega)
  obtain ⟨⟨a0, a1, a2, a3, a4⟩, af⟩ := blk5 ha2
  obtain ⟨kA, kC, rfl, -⟩ := hw2.len
  have hwb := hu2.size
  have hpl1 : pb < w1.heap.size := by omega
  have hpl2 : pb < w2.heap.size := by omega
  have hwa2 : w.heap.size < w2.heap.size := by omega
  have HP2 := Lib.hid hp2
  have HU2 := Lib.hid (HU1.out.trans hu2)
  have HW2 := Lib.hid hw2
  have HA2 := Lib.hid ha2
  have HB := Lib.hid hw2.blocks
  have HN := Lib.hid hnd
  clear hp2 hu2 hw2 ha2 hnd
  unfold datV
  go_wp2_with fail
  have hne2 : w.heap.size ≠ pb := by omega
  have hm1 := HU1.out.size
  have hpb : pb ∉ bs := fun hx => by have := (HB.out pb hx).1; omega
  have hhb : w.heap.size ∉ bs := fun hx => by have := (HB.out _ hx).1; omega
  refine bodyPost_ret (results_cell1 rfl _ _ w.heap.size 58 #[_, _, _, _, _] _ rfl (by exact halloc (bset5 (bother HA2.out hne2 _)) _) Try.underlying58 rfl size58) rfl ⟨_, bs, rfl, ?_, ?_, ?_, HN.out⟩
  · exact halloc (bother5 hne2.symm ((par_set HP2.out).2.1 _)) _
  · exact (upd5 (Nat.le_refl _) (HU2.out.set rfl _)).alloc _
  · exact (((HW2.out.mono (by omega)).setCell hpb _).set5 hhb).alloc _

set_option maxHeartbeats 1000000 in
theorem datum_quote_bad (L : List Tok) (w : World) (pb tg tc i : Nat) (o m : Nat) (hp : Par w pb tg L.length tc i o m) (ht : Toks w tg L) (hi : i < L.length) (hl : (L.length : Int) ≤ 1048577) (hne : tg ≠ pb) (hk : tokK L i = 3) (ho : o < 100) (h : m + 2 ≤ 10000) (er : Int) (ea : Nat)
    (hc : ∀ w, Par w pb tg L.length tc (i + 1 : Nat) (o + 1 : Nat) (m + 2 : Nat) → Toks w tg L → Calls Try.prog 54 #[.pointer (some ⟨pb, 0, none⟩)] w (DatBad w pb er ea)) :
    Calls Try.prog 54 #[.pointer (some ⟨pb, 0, none⟩)] w (DatBad w pb er ea) := by
  have HC := Lib.hid hc
  clear hc
  obtain ⟨z0, z1, z2, z3, zf0, zf1, zf2, zf3⟩ := blk4f hp
  obtain ⟨t0, t1, t2, t3⟩ := tok_kind ht hi
  rw [hk] at t0
  have i0 : (0 : Int) ≤ i := by omega
  have i1 : (i : Int) < L.length := by omega
  have hpl := hp.lt
  have htl := ht.1
  have HP := Lib.hid hp
  have HT := Lib.hid ht
  have HI := Lib.hid hi
  clear hp ht hi hk
  go_enter Try.func54, Try.ntmps54
  go_wp2_with fail
  go_region_held3 (fun w' => w'.cell? ⟨pb, 0, none⟩ = some (.slice (some ⟨tg, 0, none⟩) L.length tc) ∧ w'.cell? ⟨pb, 1, none⟩ = some (.int .i64 i) ∧ w'.cell? ⟨tg, i * 4, none⟩ = some (.int .u8 3) ∧ w'.cell? ⟨tg, i * 4 + 1, none⟩ = some (.string (tokT L i)) ∧ w'.cell? ⟨tg, i * 4 + 2, none⟩ = some (.int .i64 (tokN L i)) ∧ w'.cell? ⟨tg, i * 4 + 3, none⟩ = some (.int .i64 (tokA L i))) (go_keep) (fail)
  go_wp2_with fail
  refine (opens_ok _ pb tg L.length tc i o m 2 (by exact halloc (halloc (halloc HP.out _) _) _) h ho (by omega)).mono ?_
  rintro e w1 ⟨rfl, hp1, hu1⟩
  have HU1 := Lib.hid ((Upd.refl (fun b => b = pb) w).trans' (((((Upd.refl (fun b => b = pb) w).alloc _).drew).alloc _).alloc _ |>.trans hu1) (fun _ _ x => x))
  have HT1 := Lib.hid (HT.out.upd HU1.out hne)
  have HP1 := Lib.hid hp1
  clear z0 z1 z2 z3 zf0 zf1 zf2 zf3 t0 t1 t2 t3 hu1 hp1
  go_wp2_with fail
  refine (HC.out w1 HP1.out HT1.out).mono ?_
  rintro e w2 ⟨rfl, hu2⟩
  exact ⟨rfl, rfl, HU1.out.trans hu2⟩

set_option maxHeartbeats 1000000 in
theorem datum_quote_ok (L : List Tok) (w : World) (pb tg tc i : Nat) (o m : Nat) (hp : Par w pb tg L.length tc i o m) (ht : Toks w tg L) (hi : i < L.length) (hl : (L.length : Int) ≤ 1048577) (hne : tg ≠ pb) (hk : tokK L i = 3) (ho : o < 100) (h : m + 2 ≤ 10000) (d : Dat) (i' m' : Nat)
    (hc : ∀ w, Par w pb tg L.length tc (i + 1 : Nat) (o + 1 : Nat) (m + 2 : Nat) → Toks w tg L → Calls Try.prog 54 #[.pointer (some ⟨pb, 0, none⟩)] w (DatOk w pb tg L.length tc d i' (o + 1) m')) :
    Calls Try.prog 54 #[.pointer (some ⟨pb, 0, none⟩)] w (DatOk w pb tg L.length tc (lst [sym quoteT, d] false) i' o m') := by
  have HC := Lib.hid hc
  clear hc
  obtain ⟨z0, z1, z2, z3, zf0, zf1, zf2, zf3⟩ := blk4f hp
  obtain ⟨t0, t1, t2, t3⟩ := tok_kind ht hi
  rw [hk] at t0
  have i0 : (0 : Int) ≤ i := by omega
  have i1 : (i : Int) < L.length := by omega
  have hpl := hp.lt
  have htl := ht.1
  have HP := Lib.hid hp
  have HT := Lib.hid ht
  have HI := Lib.hid hi
  clear hp ht hi hk
  go_enter Try.func54, Try.ntmps54
  go_wp2_with fail
  go_region_held3 (fun w' => w'.cell? ⟨pb, 0, none⟩ = some (.slice (some ⟨tg, 0, none⟩) L.length tc) ∧ w'.cell? ⟨pb, 1, none⟩ = some (.int .i64 i) ∧ w'.cell? ⟨tg, i * 4, none⟩ = some (.int .u8 3) ∧ w'.cell? ⟨tg, i * 4 + 1, none⟩ = some (.string (tokT L i)) ∧ w'.cell? ⟨tg, i * 4 + 2, none⟩ = some (.int .i64 (tokN L i)) ∧ w'.cell? ⟨tg, i * 4 + 3, none⟩ = some (.int .i64 (tokA L i))) (go_keep) (fail)
  go_wp2_with fail
  refine (opens_ok _ pb tg L.length tc i o m 2 (by exact halloc (halloc (halloc HP.out _) _) _) h ho (by omega)).mono ?_
  rintro e w1 ⟨rfl, hp1, hu1⟩
  have ha := hu1.heap (k := w.heap.size) (by exact alloc31 _ _ _ _) (by show ¬ _ = pb; omega)
  have HU1 := Lib.hid ((Upd.refl (fun b => b = pb) w).trans' (((((Upd.refl (fun b => b = pb) w).alloc _).drew).alloc _).alloc _ |>.trans hu1) (fun _ _ x => x))
  have HT1 := Lib.hid (HT.out.upd HU1.out hne)
  have HP1 := Lib.hid hp1
  have hwa := (Array.getElem?_eq_some_iff.1 ha).1
  have HA := Lib.hid ha
  clear z0 z1 z2 z3 zf0 zf1 zf2 zf3 t0 t1 t2 t3 hu1 hp1 ha
  go_wp2_with fail
  refine (HC.out w1 HP1.out HT1.out).mono ?_
  rintro e w2 ⟨kv, bs, rfl, hp2, hu2, hw2, hnd⟩
  obtain ⟨y0, y1, y2, y3, yf0, yf1, yf2, yf3⟩ := blk4f hp2
  have ha2 := hu2.heap HA.out (by show ¬ _ = pb; omega)
  obtain ⟨⟨a0, a1, a2, a3, a4⟩, af⟩ := blk5 ha2
  obtain ⟨kA, kC, rfl, -⟩ := hw2.len
  have hwb := hu2.size
  have hpl1 : pb < w1.heap.size := by omega
  have hpl2 : pb < w2.heap.size := by omega
  have hwa2 : w.heap.size < w2.heap.size := by omega
  have HP2 := Lib.hid hp2
  have HU2 := Lib.hid (HU1.out.trans hu2)
  have HW2 := Lib.hid hw2
  have HA2 := Lib.hid ha2
  have HB := Lib.hid hw2.blocks
  have HN := Lib.hid hnd
  clear hp2 hu2 hw2 ha2 hnd
  unfold datV
  go_wp2_with fail
  have hne2 : w.heap.size ≠ pb := by omega
  have hm1 := HU1.out.size
  have hpb : pb ∉ bs := fun hx => by have := (HB.out pb hx).1; omega
  have hhb : w.heap.size ∉ bs := fun hx => by have := (HB.out _ hx).1; omega
  refine bodyPost_ret (results_cell1 rfl _ _ w.heap.size 58 #[_, _, _, _, _] _ rfl (by exact halloc (halloc (bset5 (bother HA2.out hne2 _)) _) _) Try.underlying58 rfl size58) rfl ⟨_, [w2.heap.size + 1] ++ ([] ++ (bs ++ [])), rfl, ?_, ?_, ?_, ?_⟩
  · exact halloc (halloc (bother5 hne2.symm ((par_set HP2.out).2.1 _)) _) _
  · exact ((upd5 (Nat.le_refl _) (HU2.out.set rfl _)).alloc _).alloc _
  · have hw3 := ((((HW2.out.mono (base' := w.heap.size) (by omega)).setCell (i := 2) hpb (.int .i64 (o : Int))).set5 (u0 := .int .u8 5) (u1 := .int .i64 0) (u2 := .string ⟨#[]⟩) (u3 := .slice (some ⟨w2.heap.size + 1, 0, none⟩) 2 2) (u4 := .bool false) hhb).alloc (.cells #[.int .u8 d.k, .int .i64 d.n, .string d.t, .slice kA d.kids.length kC, .bool d.dot] 58)).alloc
      (.cells #[.int .u8 2, .int .i64 0, .string ⟨#[113, 117, 111, 116, 101]⟩, .slice none 0 0, .bool false, .int .u8 d.k, .int .i64 d.n, .string d.t, .slice kA d.kids.length kC, .bool d.dot] 58)
    refine Own.mk (.slice (some ⟨w2.heap.size + 1, 0, none⟩) 2 2) [⟨sym quoteT, .slice none 0 0, []⟩, ⟨d, .slice kA d.kids.length kC, bs⟩] ⟨rfl, .inr ⟨w2.heap.size + 1, 2, #[.int .u8 2, .int .i64 0, .string ⟨#[113, 117, 111, 116, 101]⟩, .slice none 0 0, .bool false, .int .u8 d.k, .int .i64 d.n, .string d.t, .slice kA d.kids.length kC, .bool d.dot], rfl, by omega, ?_, Nat.le_refl _, by unfold maxLen; omega, rfl, rfl⟩⟩ ?_
    · have := alloc2 (((((((w2.setCell ⟨pb, 2, none⟩ (.int .i64 (o : Int))).setCell ⟨w.heap.size, 0, none⟩ (.int .u8 5)).setCell ⟨w.heap.size, 1, none⟩ (.int .i64 0)).setCell ⟨w.heap.size, 2, none⟩ (.string ⟨#[]⟩)).setCell ⟨w.heap.size, 3, none⟩ (.slice (some ⟨w2.heap.size + 1, 0, none⟩) 2 2)).setCell ⟨w.heap.size, 4, none⟩ (.bool false))) (.cells #[.int .u8 d.k, .int .i64 d.n, .string d.t, .slice kA d.kids.length kC, .bool d.dot] 58)
        (.cells #[.int .u8 2, .int .i64 0, .string ⟨#[113, 117, 111, 116, 101]⟩, .slice none 0 0, .bool false, .int .u8 d.k, .int .i64 d.n, .string d.t, .slice kA d.kids.length kC, .bool d.dot] 58)
      simpa [World.setCell] using this
    · intro e he
      rcases List.mem_cons.1 he with rfl | he
      · exact Own.nil _ _
      · rw [List.mem_singleton.1 he]; exact hw3
  · rw [List.nil_append, List.append_nil]
    refine List.nodup_cons.2 ⟨fun hx => ?_, HN.out⟩
    have := (HB.out _ hx).2
    omega
end Go.Proofs.Ytnnjhafjcdjobaa
