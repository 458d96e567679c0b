/- Read: a datum that begins with a bracket or a quote, or is none. -/
import Derived.Test.YtnnjhafjcdjobaaRdC
namespace Go.Proofs.Ytnnjhafjcdjobaa
open Go.RowKit
set_option linter.unusedVariables false
set_option linter.unusedSimpArgs false

theorem Own.setCell {w : World} {base b i : Nat} {v : Value} {l : List Dat} {bs : List Nat} (h : Own w base v l bs) (hb : b ∉ bs) (u : Value) : Own (w.setCell ⟨b, i, none⟩ u) base v l bs :=
  h.frame fun c hc => Below.heap_setCell _ _ _ _ (fun e => hb (by subst e; exact hc))
theorem Own.alloc {w : World} {base : Nat} {v : Value} {l : List Dat} {bs : List Nat} (h : Own w base v l bs) (o : Obj) : Own (w.alloc o) base v l bs :=
  h.frame fun c hc => Below.heap_alloc _ _ _ (h.blocks c hc).2
theorem Own.set5 {w : World} {base b : Nat} {v : Value} {l : List Dat} {bs : List Nat} {u0 u1 u2 u3 u4 : Value} (h : Own w base v l bs) (hb : b ∉ bs) :
    Own (((((w.setCell ⟨b, 0, none⟩ u0).setCell ⟨b, 1, none⟩ u1).setCell ⟨b, 2, none⟩ u2).setCell ⟨b, 3, none⟩ u3).setCell ⟨b, 4, none⟩ u4) base v l bs := ((((h.setCell hb _).setCell hb _).setCell hb _).setCell hb _).setCell hb _

def DatOk (w : World) (pb tg tl tc : Nat) (d : Dat) (i o m : Nat) (e : Ending) (w' : World) : Prop :=
  ∃ kv bs, e = .returned (datV d kv) ∧ Par w' pb tg tl tc i o m ∧ Upd (fun b => b = pb) w w' ∧ Own w' w.heap.size kv d.kids bs ∧ bs.Nodup
def DatBad (w : World) (pb : Nat) (er : Int) (a : Nat) (e : Ending) (w' : World) : Prop := e = .panicked (wrongC er a) ∧ Upd (fun b => b = pb) w w'
def DatPost (w : World) (pb tg tl tc o : Nat) : PR Dat → Ending → World → Prop
  | .ok d i m, e, w' => DatOk w pb tg tl tc d i o m e w'
  | .bad er a, e, w' => DatBad w pb er a e w'
  | .out, _, _ => True

set_option maxHeartbeats 2000000 in
theorem datum_leaf_bad (L : List Tok) (w : World) (pb tg tc i : Nat) (o m : Nat) (hp : Par w pb tg L.length tc i o m) (ht : Toks w tg L) (hi : i < L.length) (hl : (L.length : Int) ≤ 1048577) (hne : tg ≠ pb) (h : 10000 < m + 1) (hm : m ≤ 10000) (hk : tokK L i = 5 ∨ tokK L i = 6 ∨ tokK L i = 7 ∨ tokK L i = 8) :
    Calls Try.prog 54 #[.pointer (some ⟨pb, 0, none⟩)] w (DatBad w pb 62 (tokA L i)) := by
  obtain ⟨z0, z1, z2, z3, zf0, zf1, zf2, zf3⟩ := blk4f hp
  obtain ⟨t0, t1, t2, t3⟩ := tok_kind ht hi
  have i0 : (0 : Int) ≤ i := by omega
  have i1 : (i : Int) < L.length := by omega
  have hpl := hp.lt
  have htl := ht.1
  have HP := Lib.hid hp
  have HT := Lib.hid ht
  have HI := Lib.hid hi
  clear hp ht hi
  generalize tokK L i = k at *
  rcases hk with rfl | rfl | rfl | rfl
  all_goals
    go_enter Try.func54, Try.ntmps54
    go_wp2_with fail
    first
      | go_region_held3 (fun w' => w'.cell? ⟨pb, 0, none⟩ = some (.slice (some ⟨tg, 0, none⟩) L.length tc) ∧ w'.cell? ⟨pb, 1, none⟩ = some (.int .i64 i) ∧ w'.cell? ⟨tg, i * 4, none⟩ = some (.int .u8 5) ∧ w'.cell? ⟨tg, i * 4 + 1, none⟩ = some (.string (tokT L i)) ∧ w'.cell? ⟨tg, i * 4 + 2, none⟩ = some (.int .i64 (tokN L i)) ∧ w'.cell? ⟨tg, i * 4 + 3, none⟩ = some (.int .i64 (tokA L i))) (go_keep) (fail)
      | go_region_held3 (fun w' => w'.cell? ⟨pb, 0, none⟩ = some (.slice (some ⟨tg, 0, none⟩) L.length tc) ∧ w'.cell? ⟨pb, 1, none⟩ = some (.int .i64 i) ∧ w'.cell? ⟨tg, i * 4, none⟩ = some (.int .u8 6) ∧ w'.cell? ⟨tg, i * 4 + 1, none⟩ = some (.string (tokT L i)) ∧ w'.cell? ⟨tg, i * 4 + 2, none⟩ = some (.int .i64 (tokN L i)) ∧ w'.cell? ⟨tg, i * 4 + 3, none⟩ = some (.int .i64 (tokA L i))) (go_keep) (fail)
      | go_region_held3 (fun w' => w'.cell? ⟨pb, 0, none⟩ = some (.slice (some ⟨tg, 0, none⟩) L.length tc) ∧ w'.cell? ⟨pb, 1, none⟩ = some (.int .i64 i) ∧ w'.cell? ⟨tg, i * 4, none⟩ = some (.int .u8 7) ∧ w'.cell? ⟨tg, i * 4 + 1, none⟩ = some (.string (tokT L i)) ∧ w'.cell? ⟨tg, i * 4 + 2, none⟩ = some (.int .i64 (tokN L i)) ∧ w'.cell? ⟨tg, i * 4 + 3, none⟩ = some (.int .i64 (tokA L i))) (go_keep) (fail)
      | go_region_held3 (fun w' => w'.cell? ⟨pb, 0, none⟩ = some (.slice (some ⟨tg, 0, none⟩) L.length tc) ∧ w'.cell? ⟨pb, 1, none⟩ = some (.int .i64 i) ∧ w'.cell? ⟨tg, i * 4, none⟩ = some (.int .u8 8) ∧ w'.cell? ⟨tg, i * 4 + 1, none⟩ = some (.string (tokT L i)) ∧ w'.cell? ⟨tg, i * 4 + 2, none⟩ = some (.int .i64 (tokN L i)) ∧ w'.cell? ⟨tg, i * 4 + 3, none⟩ = some (.int .i64 (tokA L i))) (go_keep) (fail)
    go_wp2_with fail
    refine (count_bad L _ pb tg tc i o m 1 (by exact halloc (halloc (halloc HP.out _) _) _) (by exact ((HT.out.alloc _).alloc _).alloc _) HI.out hl hne h (by omega)).mono ?_
    rintro e w1 ⟨rfl, hu1⟩
    exact ⟨rfl, rfl, (Upd.refl (fun b => b = pb) w).trans' (((((Upd.refl (fun b => b = pb) w).alloc _).drew).alloc _).alloc _ |>.trans hu1) (fun _ _ x => x)⟩

theorem datum_form (L : List Tok) (w : World) (pb tg tc i : Nat) (o m : Nat) (hp : Par w pb tg L.length tc i o m) (ht : Toks w tg L) (hi : i < L.length) (hl : (L.length : Int) ≤ 1048577) (k : Int) (hk : tokK L i = k)
    (k1 : (k == 1) = false) (k3 : (k == 3) = false) (k5 : (k == 5) = false) (k6 : (k == 6) = false) (k7 : (k == 7) = false) (k8 : (k == 8) = false) :
    Calls Try.prog 54 #[.pointer (some ⟨pb, 0, none⟩)] w (DatBad w pb 60 (tokA L i)) := by
  obtain ⟨z0, z1, z2, z3, zf0, zf1, zf2, zf3⟩ := blk4f hp
  obtain ⟨t0, t1, t2, t3⟩ := tok_kind ht hi
  rw [hk] at t0
  have i0 : (0 : Int) ≤ i := by omega
  have i1 : (i : Int) < L.length := by omega
  have hpl := hp.lt
  have htl := ht.1
  have HP := Lib.hid hp
  have HT := Lib.hid ht
  have HI := Lib.hid hi
  clear hp ht hi hk
  go_enter Try.func54, Try.ntmps54
  go_wp2_with fail
  go_region_held3 (fun w' => w'.cell? ⟨pb, 0, none⟩ = some (.slice (some ⟨tg, 0, none⟩) L.length tc) ∧ w'.cell? ⟨pb, 1, none⟩ = some (.int .i64 i) ∧ w'.cell? ⟨tg, i * 4, none⟩ = some (.int .u8 k) ∧ w'.cell? ⟨tg, i * 4 + 1, none⟩ = some (.string (tokT L i)) ∧ w'.cell? ⟨tg, i * 4 + 2, none⟩ = some (.int .i64 (tokN L i)) ∧ w'.cell? ⟨tg, i * 4 + 3, none⟩ = some (.int .i64 (tokA L i))) (go_keep) (fail)
  go_wp2_with fail
  refine (fail_calls L _ pb tg tc i o m 60 (by exact halloc (halloc (halloc HP.out _) _) _) (by exact ((HT.out.alloc _).alloc _).alloc _) HI.out hl).mono ?_
  rintro e w1 ⟨rfl, hu1⟩
  exact ⟨rfl, rfl, (Upd.refl (fun b => b = pb) w).trans' (((((Upd.refl (fun b => b = pb) w).alloc _).drew).alloc _).alloc _ |>.trans (Upd.par hu1)) (fun _ _ x => x)⟩
end Go.Proofs.Ytnnjhafjcdjobaa
