import Derived.Test.YtgfabhioliljmaaCyI
import Derived.Deep.RegionHeld3
namespace Go.Proofs.Ytgfabhioliljmaa
open Go.RowKit
attribute [local go_sem high] eq27 eq34

set_option maxRecDepth 100000 in
set_option maxHeartbeats 4000000 in
theorem tells_core (ph g s f b : Int) (a : Bool) (rc rg rt : Int) (rs ro ry back : Bool) (th : Int) (b0 b1 b2 b3 b4 : Int) (b5 : Bool) (be : Int) (s0 s1 s2 s3 s4 : Int) (s5 : Bool) (se : Int) (d0 d1 d2 d3 : Int) (m : Int) (w : World)
    (H7 : Hid (∀ w, Calls Try.prog 7 #[.agg #[.int .u8 ph, .int .i64 g, .int .i64 s, .int .i64 f, .int .i64 b, .bool a]] w fun e w' => e = .returned (.tuple #[.agg #[.int .u8 b0, .int .i64 b1, .int .i64 b2, .int .i64 b3, .int .i64 b4, .bool b5], .int .i64 be]) ∧ New w w'))
    (H8 : Hid (∀ w, Calls Try.prog 8 #[.agg #[.int .u8 ph, .int .i64 g, .int .i64 s, .int .i64 f, .int .i64 b, .bool a]] w fun e w' => e = .returned (.tuple #[.agg #[.int .u8 b0, .int .i64 b1, .int .i64 b2, .int .i64 b3, .int .i64 b4, .bool b5], .int .i64 be]) ∧ New w w'))
    (H9 : Hid (∀ w, Calls Try.prog 9 #[.agg #[.int .u8 ph, .int .i64 g, .int .i64 s, .int .i64 f, .int .i64 b, .bool a], .agg #[.int .i64 rc, .int .i64 rg, .int .i64 rt, .bool rs, .bool ro, .bool ry]] w fun e w' => e = .returned (.agg #[.int .u8 d0, .int .i64 d1, .int .i64 d2, .int .i64 d3]) ∧ New w w'))
    (H13 : Hid (∀ w, Calls Try.prog 13 #[.agg #[.int .u8 ph, .int .i64 g, .int .i64 s, .int .i64 f, .int .i64 b, .bool a], .agg #[.int .i64 rc, .int .i64 rg, .int .i64 rt, .bool rs, .bool ro, .bool ry]] w fun e w' => e = .returned (.agg #[.int .u8 d0, .int .i64 d1, .int .i64 d2, .int .i64 d3]) ∧ New w w'))
    (H10 : Hid (∀ w, Calls Try.prog 10 #[.agg #[.int .u8 ph, .int .i64 g, .int .i64 s, .int .i64 f, .int .i64 b, .bool a], .agg #[.int .i64 rc, .int .i64 rg, .int .i64 rt, .bool rs, .bool ro, .bool ry], .bool back] w fun e w' => e = .returned (.tuple #[.agg #[.int .u8 s0, .int .i64 s1, .int .i64 s2, .int .i64 s3, .int .i64 s4, .bool s5], .int .i64 se]) ∧ New w w'))
    (H11 : Hid (∀ w, Calls Try.prog 11 #[.agg #[.int .u8 ph, .int .i64 g, .int .i64 s, .int .i64 f, .int .i64 b, .bool a], .agg #[.int .i64 rc, .int .i64 rg, .int .i64 rt, .bool rs, .bool ro, .bool ry], .bool back] w fun e w' => e = .returned (.tuple #[.agg #[.int .u8 s0, .int .i64 s1, .int .i64 s2, .int .i64 s3, .int .i64 s4, .bool s5], .int .i64 se]) ∧ New w w'))
    (H12 : Hid (∀ w, Calls Try.prog 12 #[.int .i64 rc, .int .i64 rg, .int .i64 th] w fun e w' => e = .returned (.int .i64 m) ∧ New w w'))
    (H14 : Hid (∀ w, Calls Try.prog 14 #[.int .i64 rc, .int .i64 rg, .int .i64 th] w fun e w' => e = .returned (.int .i64 m) ∧ New w w')) :
    Calls Try.prog 4 #[.agg #[.int .u8 ph, .int .i64 g, .int .i64 s, .int .i64 f, .int .i64 b, .bool a], .agg #[.int .i64 rc, .int .i64 rg, .int .i64 rt, .bool rs, .bool ro, .bool ry], .bool back, .int .i64 th] w fun e w' => e = .returned (.bool true) ∧ New w w' := by
  go_enter Try.func4, Try.ntmps4
  go_wp2_with fail
  refine (works_calls _).mono ?_
  rintro e w1 ⟨rfl, hu⟩
  have hA := hu.heap (alloc1 w (.cells #[.int .u8 ph, .int .i64 g, .int .i64 s, .int .i64 f, .int .i64 b, .bool a] 27) (.cells #[.int .i64 rc, .int .i64 rg, .int .i64 rt, .bool rs, .bool ro, .bool ry] 29)) (fun x => x)
  have hR := hu.heap (alloc2 w (.cells #[.int .u8 ph, .int .i64 g, .int .i64 s, .int .i64 f, .int .i64 b, .bool a] 27) (.cells #[.int .i64 rc, .int .i64 rg, .int .i64 rt, .bool rs, .bool ro, .bool ry] 29)) (fun x => x)
  have HN := Lib.hid (Upd.trans (((Upd.refl (fun _ => False) w).alloc (.cells #[.int .u8 ph, .int .i64 g, .int .i64 s, .int .i64 f, .int .i64 b, .bool a] 27)).alloc (.cells #[.int .i64 rc, .int .i64 rg, .int .i64 rt, .bool rs, .bool ro, .bool ry] 29)) hu)
  clear hu
  obtain ⟨a0, a1, a2, a3, a4, a5, -⟩ := blk6f hA
  obtain ⟨r0, r1, r2, r3, r4, r5, -⟩ := blk6f hR
  have lA := (Array.getElem?_eq_some_iff.1 hA).1
  have lR := (Array.getElem?_eq_some_iff.1 hR).1
  have HA := Lib.hid hA
  clear hA
  have HR := Lib.hid hR
  clear hR
  go_wp2_with fail
  refine (H7.out _).mono ?_
  rintro e w2 ⟨rfl, hu⟩
  have hA := hu.heap HA.out (fun x => x)
  clear HA
  have hR := hu.heap HR.out (fun x => x)
  clear HR
  have hn := Upd.trans HN.out hu
  clear HN
  have HN := Lib.hid hn
  clear hn
  clear a0 a1 a2 a3 a4 a5 r0 r1 r2 r3 r4 r5 lA lR
  clear hu
  obtain ⟨a0, a1, a2, a3, a4, a5, -⟩ := blk6f hA
  obtain ⟨r0, r1, r2, r3, r4, r5, -⟩ := blk6f hR
  have lA := (Array.getElem?_eq_some_iff.1 hA).1
  have lR := (Array.getElem?_eq_some_iff.1 hR).1
  have HA := Lib.hid hA
  clear hA
  have HR := Lib.hid hR
  clear hR
  go_wp2_with fail
  refine (H8.out _).mono ?_
  rintro e w3 ⟨rfl, hu⟩
  have hA := hu.heap (halloc HA.out (.cells #[.int .u8 b0, .int .i64 b1, .int .i64 b2, .int .i64 b3, .int .i64 b4, .bool b5] 27)) (fun x => x)
  clear HA
  have hR := hu.heap (halloc HR.out (.cells #[.int .u8 b0, .int .i64 b1, .int .i64 b2, .int .i64 b3, .int .i64 b4, .bool b5] 27)) (fun x => x)
  clear HR
  have hb1 := hu.heap (heap_alloc_new w2 (.cells #[.int .u8 b0, .int .i64 b1, .int .i64 b2, .int .i64 b3, .int .i64 b4, .bool b5] 27)) (fun x => x)
  have hn := Upd.trans (Upd.alloc HN.out (.cells #[.int .u8 b0, .int .i64 b1, .int .i64 b2, .int .i64 b3, .int .i64 b4, .bool b5] 27)) hu
  clear HN
  have HN := Lib.hid hn
  clear hn
  clear a0 a1 a2 a3 a4 a5 r0 r1 r2 r3 r4 r5 lA lR
  clear hu
  obtain ⟨a0, a1, a2, a3, a4, a5, -⟩ := blk6f hA
  obtain ⟨r0, r1, r2, r3, r4, r5, -⟩ := blk6f hR
  have lA := (Array.getElem?_eq_some_iff.1 hA).1
  have lR := (Array.getElem?_eq_some_iff.1 hR).1
  have HA := Lib.hid hA
  clear hA
  have HR := Lib.hid hR
  clear hR
  have Hb1 := Lib.hid hb1
  clear hb1
  go_wp2_with fail
  refine (H9.out _).mono ?_
  rintro e w4 ⟨rfl, hu⟩
  have hA := hu.heap (halloc HA.out (.cells #[.int .u8 b0, .int .i64 b1, .int .i64 b2, .int .i64 b3, .int .i64 b4, .bool b5] 27)) (fun x => x)
  clear HA
  have hR := hu.heap (halloc HR.out (.cells #[.int .u8 b0, .int .i64 b1, .int .i64 b2, .int .i64 b3, .int .i64 b4, .bool b5] 27)) (fun x => x)
  clear HR
  have hb1 := hu.heap (halloc Hb1.out (.cells #[.int .u8 b0, .int .i64 b1, .int .i64 b2, .int .i64 b3, .int .i64 b4, .bool b5] 27)) (fun x => x)
  clear Hb1
  have hb2 := hu.heap (heap_alloc_new w3 (.cells #[.int .u8 b0, .int .i64 b1, .int .i64 b2, .int .i64 b3, .int .i64 b4, .bool b5] 27)) (fun x => x)
  have hn := Upd.trans (Upd.alloc HN.out (.cells #[.int .u8 b0, .int .i64 b1, .int .i64 b2, .int .i64 b3, .int .i64 b4, .bool b5] 27)) hu
  clear HN
  have HN := Lib.hid hn
  clear hn
  clear a0 a1 a2 a3 a4 a5 r0 r1 r2 r3 r4 r5 lA lR
  clear hu
  obtain ⟨a0, a1, a2, a3, a4, a5, -⟩ := blk6f hA
  obtain ⟨r0, r1, r2, r3, r4, r5, -⟩ := blk6f hR
  have lA := (Array.getElem?_eq_some_iff.1 hA).1
  have lR := (Array.getElem?_eq_some_iff.1 hR).1
  have HA := Lib.hid hA
  clear hA
  have HR := Lib.hid hR
  clear hR
  have Hb1 := Lib.hid hb1
  clear hb1
  have Hb2 := Lib.hid hb2
  clear hb2
  go_wp2_with fail
  refine (H10.out _).mono ?_
  rintro e w5 ⟨rfl, hu⟩
  have hA := hu.heap (halloc HA.out (.cells #[.int .u8 d0, .int .i64 d1, .int .i64 d2, .int .i64 d3] 34)) (fun x => x)
  clear HA
  have hR := hu.heap (halloc HR.out (.cells #[.int .u8 d0, .int .i64 d1, .int .i64 d2, .int .i64 d3] 34)) (fun x => x)
  clear HR
  have hb1 := hu.heap (halloc Hb1.out (.cells #[.int .u8 d0, .int .i64 d1, .int .i64 d2, .int .i64 d3] 34)) (fun x => x)
  clear Hb1
  have hb2 := hu.heap (halloc Hb2.out (.cells #[.int .u8 d0, .int .i64 d1, .int .i64 d2, .int .i64 d3] 34)) (fun x => x)
  clear Hb2
  have hd := hu.heap (heap_alloc_new w4 (.cells #[.int .u8 d0, .int .i64 d1, .int .i64 d2, .int .i64 d3] 34)) (fun x => x)
  have hn := Upd.trans (Upd.alloc HN.out (.cells #[.int .u8 d0, .int .i64 d1, .int .i64 d2, .int .i64 d3] 34)) hu
  clear HN
  have HN := Lib.hid hn
  clear hn
  clear a0 a1 a2 a3 a4 a5 r0 r1 r2 r3 r4 r5 lA lR
  clear hu
  obtain ⟨a0, a1, a2, a3, a4, a5, -⟩ := blk6f hA
  obtain ⟨r0, r1, r2, r3, r4, r5, -⟩ := blk6f hR
  have lA := (Array.getElem?_eq_some_iff.1 hA).1
  have lR := (Array.getElem?_eq_some_iff.1 hR).1
  have HA := Lib.hid hA
  clear hA
  have HR := Lib.hid hR
  clear hR
  have Hb1 := Lib.hid hb1
  clear hb1
  have Hb2 := Lib.hid hb2
  clear hb2
  have Hd := Lib.hid hd
  clear hd
  go_wp2_with fail
  refine (H11.out _).mono ?_
  rintro e w6 ⟨rfl, hu⟩
  have hA := hu.heap (halloc HA.out (.cells #[.int .u8 s0, .int .i64 s1, .int .i64 s2, .int .i64 s3, .int .i64 s4, .bool s5] 27)) (fun x => x)
  clear HA
  have hR := hu.heap (halloc HR.out (.cells #[.int .u8 s0, .int .i64 s1, .int .i64 s2, .int .i64 s3, .int .i64 s4, .bool s5] 27)) (fun x => x)
  clear HR
  have hb1 := hu.heap (halloc Hb1.out (.cells #[.int .u8 s0, .int .i64 s1, .int .i64 s2, .int .i64 s3, .int .i64 s4, .bool s5] 27)) (fun x => x)
  clear Hb1
  have hb2 := hu.heap (halloc Hb2.out (.cells #[.int .u8 s0, .int .i64 s1, .int .i64 s2, .int .i64 s3, .int .i64 s4, .bool s5] 27)) (fun x => x)
  clear Hb2
  have hd := hu.heap (halloc Hd.out (.cells #[.int .u8 s0, .int .i64 s1, .int .i64 s2, .int .i64 s3, .int .i64 s4, .bool s5] 27)) (fun x => x)
  clear Hd
  have hs1 := hu.heap (heap_alloc_new w5 (.cells #[.int .u8 s0, .int .i64 s1, .int .i64 s2, .int .i64 s3, .int .i64 s4, .bool s5] 27)) (fun x => x)
  have hn := Upd.trans (Upd.alloc HN.out (.cells #[.int .u8 s0, .int .i64 s1, .int .i64 s2, .int .i64 s3, .int .i64 s4, .bool s5] 27)) hu
  clear HN
  have HN := Lib.hid hn
  clear hn
  clear a0 a1 a2 a3 a4 a5 r0 r1 r2 r3 r4 r5 lA lR
  clear hu
  obtain ⟨a0, a1, a2, a3, a4, a5, -⟩ := blk6f hA
  obtain ⟨r0, r1, r2, r3, r4, r5, -⟩ := blk6f hR
  have lA := (Array.getElem?_eq_some_iff.1 hA).1
  have lR := (Array.getElem?_eq_some_iff.1 hR).1
  have HA := Lib.hid hA
  clear hA
  have HR := Lib.hid hR
  clear hR
  have Hb1 := Lib.hid hb1
  clear hb1
  have Hb2 := Lib.hid hb2
  clear hb2
  have Hd := Lib.hid hd
  clear hd
  have Hs1 := Lib.hid hs1
  clear hs1
  go_wp2_with fail
  refine (H12.out _).mono ?_
  rintro e w7 ⟨rfl, hu⟩
  have hA := hu.heap (halloc HA.out (.cells #[.int .u8 s0, .int .i64 s1, .int .i64 s2, .int .i64 s3, .int .i64 s4, .bool s5] 27)) (fun x => x)
  clear HA
  have hR := hu.heap (halloc HR.out (.cells #[.int .u8 s0, .int .i64 s1, .int .i64 s2, .int .i64 s3, .int .i64 s4, .bool s5] 27)) (fun x => x)
  clear HR
  have hb1 := hu.heap (halloc Hb1.out (.cells #[.int .u8 s0, .int .i64 s1, .int .i64 s2, .int .i64 s3, .int .i64 s4, .bool s5] 27)) (fun x => x)
  clear Hb1
  have hb2 := hu.heap (halloc Hb2.out (.cells #[.int .u8 s0, .int .i64 s1, .int .i64 s2, .int .i64 s3, .int .i64 s4, .bool s5] 27)) (fun x => x)
  clear Hb2
  have hd := hu.heap (halloc Hd.out (.cells #[.int .u8 s0, .int .i64 s1, .int .i64 s2, .int .i64 s3, .int .i64 s4, .bool s5] 27)) (fun x => x)
  clear Hd
  have hs1 := hu.heap (halloc Hs1.out (.cells #[.int .u8 s0, .int .i64 s1, .int .i64 s2, .int .i64 s3, .int .i64 s4, .bool s5] 27)) (fun x => x)
  clear Hs1
  have hs2 := hu.heap (heap_alloc_new w6 (.cells #[.int .u8 s0, .int .i64 s1, .int .i64 s2, .int .i64 s3, .int .i64 s4, .bool s5] 27)) (fun x => x)
  have hn := Upd.trans (Upd.alloc HN.out (.cells #[.int .u8 s0, .int .i64 s1, .int .i64 s2, .int .i64 s3, .int .i64 s4, .bool s5] 27)) hu
  clear HN
  have HN := Lib.hid hn
  clear hn
  clear a0 a1 a2 a3 a4 a5 r0 r1 r2 r3 r4 r5 lA lR
  clear hu
  obtain ⟨a0, a1, a2, a3, a4, a5, -⟩ := blk6f hA
  obtain ⟨r0, r1, r2, r3, r4, r5, -⟩ := blk6f hR
  have lA := (Array.getElem?_eq_some_iff.1 hA).1
  have lR := (Array.getElem?_eq_some_iff.1 hR).1
  have HA := Lib.hid hA
  clear hA
  have HR := Lib.hid hR
  clear hR
  have Hb1 := Lib.hid hb1
  clear hb1
  have Hb2 := Lib.hid hb2
  clear hb2
  have Hd := Lib.hid hd
  clear hd
  have Hs1 := Lib.hid hs1
  clear hs1
  have Hs2 := Lib.hid hs2
  clear hs2
  clear a0 a1 a2 a3 a4 a5 r0 r1 r2 r3 r4 r5 lA lR
  go_wp2_with fail
  obtain ⟨ca0, ca1, ca2, ca3, ca4, ca5, -⟩ := blk6f HA.out
  obtain ⟨cr0, cr1, cr2, cr3, cr4, cr5, -⟩ := blk6f HR.out
  obtain ⟨cb0, cb1, cb2, cb3, cb4, cb5, -⟩ := blk6f Hb1.out
  obtain ⟨cc0, cc1, cc2, cc3, cc4, cc5, -⟩ := blk6f Hb2.out
  obtain ⟨cd0, cd1, cd2, cd3, -⟩ := blk4f Hd.out
  obtain ⟨cs0, cs1, cs2, cs3, cs4, cs5, -⟩ := blk6f Hs1.out
  obtain ⟨ct0, ct1, ct2, ct3, ct4, ct5, -⟩ := blk6f Hs2.out
  go_region_held3 (fun w' => w'.cell? ⟨w.heap.size, 0, none⟩ = some (.int .u8 ph) ∧ w'.cell? ⟨w.heap.size, 1, none⟩ = some (.int .i64 g) ∧ w'.cell? ⟨w.heap.size, 2, none⟩ = some (.int .i64 s) ∧ w'.cell? ⟨w.heap.size, 3, none⟩ = some (.int .i64 f) ∧ w'.cell? ⟨w.heap.size, 4, none⟩ = some (.int .i64 b) ∧ w'.cell? ⟨w.heap.size, 5, none⟩ = some (.bool a) ∧ w'.cell? ⟨w.heap.size + 1, 0, none⟩ = some (.int .i64 rc) ∧ w'.cell? ⟨w.heap.size + 1, 1, none⟩ = some (.int .i64 rg) ∧ w'.cell? ⟨w.heap.size + 1, 2, none⟩ = some (.int .i64 rt) ∧ w'.cell? ⟨w.heap.size + 1, 3, none⟩ = some (.bool rs) ∧ w'.cell? ⟨w.heap.size + 1, 4, none⟩ = some (.bool ro) ∧ w'.cell? ⟨w.heap.size + 1, 5, none⟩ = some (.bool ry) ∧ w'.cell? ⟨w2.heap.size, 0, none⟩ = some (.int .u8 b0) ∧ w'.cell? ⟨w2.heap.size, 1, none⟩ = some (.int .i64 b1) ∧ w'.cell? ⟨w2.heap.size, 2, none⟩ = some (.int .i64 b2) ∧ w'.cell? ⟨w2.heap.size, 3, none⟩ = some (.int .i64 b3) ∧ w'.cell? ⟨w2.heap.size, 4, none⟩ = some (.int .i64 b4) ∧ w'.cell? ⟨w2.heap.size, 5, none⟩ = some (.bool b5) ∧ w'.cell? ⟨w3.heap.size, 0, none⟩ = some (.int .u8 b0) ∧ w'.cell? ⟨w3.heap.size, 1, none⟩ = some (.int .i64 b1) ∧ w'.cell? ⟨w3.heap.size, 2, none⟩ = some (.int .i64 b2) ∧ w'.cell? ⟨w3.heap.size, 3, none⟩ = some (.int .i64 b3) ∧ w'.cell? ⟨w3.heap.size, 4, none⟩ = some (.int .i64 b4) ∧ w'.cell? ⟨w3.heap.size, 5, none⟩ = some (.bool b5) ∧ w'.cell? ⟨w4.heap.size, 0, none⟩ = some (.int .u8 d0) ∧ w'.cell? ⟨w4.heap.size, 1, none⟩ = some (.int .i64 d1) ∧ w'.cell? ⟨w4.heap.size, 2, none⟩ = some (.int .i64 d2) ∧ w'.cell? ⟨w4.heap.size, 3, none⟩ = some (.int .i64 d3) ∧ w'.cell? ⟨w5.heap.size, 0, none⟩ = some (.int .u8 s0) ∧ w'.cell? ⟨w5.heap.size, 1, none⟩ = some (.int .i64 s1) ∧ w'.cell? ⟨w5.heap.size, 2, none⟩ = some (.int .i64 s2) ∧ w'.cell? ⟨w5.heap.size, 3, none⟩ = some (.int .i64 s3) ∧ w'.cell? ⟨w5.heap.size, 4, none⟩ = some (.int .i64 s4) ∧ w'.cell? ⟨w5.heap.size, 5, none⟩ = some (.bool s5) ∧ w'.cell? ⟨w6.heap.size, 0, none⟩ = some (.int .u8 s0) ∧ w'.cell? ⟨w6.heap.size, 1, none⟩ = some (.int .i64 s1) ∧ w'.cell? ⟨w6.heap.size, 2, none⟩ = some (.int .i64 s2) ∧ w'.cell? ⟨w6.heap.size, 3, none⟩ = some (.int .i64 s3) ∧ w'.cell? ⟨w6.heap.size, 4, none⟩ = some (.int .i64 s4) ∧ w'.cell? ⟨w6.heap.size, 5, none⟩ = some (.bool s5)) (first | exact ⟨ca0, ca1, ca2, ca3, ca4, ca5, cr0, cr1, cr2, cr3, cr4, cr5, cb0, cb1, cb2, cb3, cb4, cb5, cc0, cc1, cc2, cc3, cc4, cc5, cd0, cd1, cd2, cd3, cs0, cs1, cs2, cs3, cs4, cs5, ct0, ct1, ct2, ct3, ct4, ct5⟩ | exact ⟨ca0x, ca1x, ca2x, ca3x, ca4x, ca5x, cr0x, cr1x, cr2x, cr3x, cr4x, cr5x, cb0x, cb1x, cb2x, cb3x, cb4x, cb5x, cc0x, cc1x, cc2x, cc3x, cc4x, cc5x, cd0x, cd1x, cd2x, cd3x, cs0x, cs1x, cs2x, cs3x, cs4x, cs5x, ct0x, ct1x, ct2x, ct3x, ct4x, ct5x⟩ | exact ⟨ca0y, ca1y, ca2y, ca3y, ca4y, ca5y, cr0y, cr1y, cr2y, cr3y, cr4y, cr5y, cb0y, cb1y, cb2y, cb3y, cb4y, cb5y, cc0y, cc1y, cc2y, cc3y, cc4y, cc5y, cd0y, cd1y, cd2y, cd3y, cs0y, cs1y, cs2y, cs3y, cs4y, cs5y, ct0y, ct1y, ct2y, ct3y, ct4y, ct5y⟩)
    (first | (go_at_call 13; refine (H13.out _).mono ?_; rintro e w8 ⟨rfl, hux⟩; have HNx := Lib.hid (Upd.trans ((HN.out).drew) hux); have hAx := hux.heap (by exact HA.out) (fun x => x); obtain ⟨ca0x, ca1x, ca2x, ca3x, ca4x, ca5x, -⟩ := blk6f (hAx); have HAx := Lib.hid hAx; clear hAx; have hRx := hux.heap (by exact HR.out) (fun x => x); obtain ⟨cr0x, cr1x, cr2x, cr3x, cr4x, cr5x, -⟩ := blk6f (hRx); have HRx := Lib.hid hRx; clear hRx; have hb1x := hux.heap (by exact Hb1.out) (fun x => x); obtain ⟨cb0x, cb1x, cb2x, cb3x, cb4x, cb5x, -⟩ := blk6f (hb1x); have Hb1x := Lib.hid hb1x; clear hb1x; have hb2x := hux.heap (by exact Hb2.out) (fun x => x); obtain ⟨cc0x, cc1x, cc2x, cc3x, cc4x, cc5x, -⟩ := blk6f (hb2x); have Hb2x := Lib.hid hb2x; clear hb2x; have hdx := hux.heap (by exact Hd.out) (fun x => x); obtain ⟨cd0x, cd1x, cd2x, cd3x, -⟩ := blk4f (hdx); have Hdx := Lib.hid hdx; clear hdx; have hs1x := hux.heap (by exact Hs1.out) (fun x => x); obtain ⟨cs0x, cs1x, cs2x, cs3x, cs4x, cs5x, -⟩ := blk6f (hs1x); have Hs1x := Lib.hid hs1x; clear hs1x; have hs2x := hux.heap (by exact Hs2.out) (fun x => x); obtain ⟨ct0x, ct1x, ct2x, ct3x, ct4x, ct5x, -⟩ := blk6f (hs2x); have Hs2x := Lib.hid hs2x; clear hs2x; clear hux) | (go_at_call 14; refine (H14.out _).mono ?_; rintro e w9 ⟨rfl, huy⟩; have HNy := Lib.hid (Upd.trans (HNx.out) huy); have hAy := huy.heap (by exact HAx.out) (fun x => x); obtain ⟨ca0y, ca1y, ca2y, ca3y, ca4y, ca5y, -⟩ := blk6f (hAy); have HAy := Lib.hid hAy; clear hAy; have hRy := huy.heap (by exact HRx.out) (fun x => x); obtain ⟨cr0y, cr1y, cr2y, cr3y, cr4y, cr5y, -⟩ := blk6f (hRy); have HRy := Lib.hid hRy; clear hRy; have hb1y := huy.heap (by exact Hb1x.out) (fun x => x); obtain ⟨cb0y, cb1y, cb2y, cb3y, cb4y, cb5y, -⟩ := blk6f (hb1y); have Hb1y := Lib.hid hb1y; clear hb1y; have hb2y := huy.heap (by exact Hb2x.out) (fun x => x); obtain ⟨cc0y, cc1y, cc2y, cc3y, cc4y, cc5y, -⟩ := blk6f (hb2y); have Hb2y := Lib.hid hb2y; clear hb2y; have hdy := huy.heap (by exact Hdx.out) (fun x => x); obtain ⟨cd0y, cd1y, cd2y, cd3y, -⟩ := blk4f (hdy); have Hdy := Lib.hid hdy; clear hdy; have hs1y := huy.heap (by exact Hs1x.out) (fun x => x); obtain ⟨cs0y, cs1y, cs2y, cs3y, cs4y, cs5y, -⟩ := blk6f (hs1y); have Hs1y := Lib.hid hs1y; clear hs1y; have hs2y := huy.heap (by exact Hs2x.out) (fun x => x); obtain ⟨ct0y, ct1y, ct2y, ct3y, ct4y, ct5y, -⟩ := blk6f (hs2y); have Hs2y := Lib.hid hs2y; clear hs2y; clear huy))
  all_goals go_wp2
  all_goals (go_ret; exact ⟨rfl, HNy.out⟩)
end Go.Proofs.Ytgfabhioliljmaa
