/- The book: a list of tokens is put into it; each has memory of its own. -/
import Derived.Test.YtecoahdeafobkaaRsB
import Derived.Test.YtecoahdeafobkaaLyB
namespace Go.Proofs.Ytecoahdeafobkaa
open Go.RowKit
set_option linter.unusedVariables false
set_option linter.unusedSimpArgs false

/-- A book of lists of tokens. -/
structure BookAt (w : World) (B0 Bb m : Nat) (T : Value) (vs : Nat → Value) : Prop where
  box : w.heap[Bb]? = some (.cells #[.slice none 0 0, .slice none 0 0, .slice none 0 0, .slice none 0 0, .slice none 0 0, .slice none 0 0, .slice none 0 0, .slice none 0 0, T, .slice none 0 0, .slice none 0 0, .slice none 0 0, .slice none 0 0, .slice none 0 0, .slice none 0 0, .slice none 0 0, .slice none 0 0] 60 (0, 0))
  own : w.ownsRow B0 26 1 T m ((List.range m).map vs)
  ne : T.ownBlock ≠ some Bb
theorem blk17 {w : World} {b : Nat} {t : TypeId} {c : Array Value} (h : w.heap[b]? = some (.cells c t (0, 0))) (i : Nat) (v : Value) (hv : c[i]? = some v) : w.cell? ⟨b, i, none⟩ = some v ∧ w.frozen? ⟨b, i, none⟩ = false := by
  refine ⟨by simp [World.cell?, h, hv], by simp [World.frozen?, h]⟩
set_option maxRecDepth 100000 in
set_option maxHeartbeats 2000000 in
theorem put_calls {w : World} {B0 Bb m : Nat} {T : Value} {vs : Nat → Value} (h : BookAt w B0 Bb m T vs) (Al : Option Addr) (n c : Nat) (hm : m ≤ 1000000) (hB0 : B0 ≤ w.heap.size) :
    Calls Try.prog 20 #[.pointer (some ⟨Bb, 0, none⟩), .slice Al n c] w fun e w' => e = .returned (.tuple #[]) ∧ ∃ T', BookAt w' B0 Bb (m + 1) T' (Bk.setW vs m (.slice Al n c)) ∧ Upd (fun b => b = Bb ∨ T.ownBlock = some b) w w' ∧ (T'.ownBlock = T.ownBlock ∨ ∀ b, T'.ownBlock = some b → w.heap.size ≤ b) := by
  obtain ⟨iS, hiS, hzS0, hzS1, hzS2⟩ := info_parts infoS
  obtain ⟨x8, f8⟩ := blk17 h.box 8 T rfl
  have hBl := (Array.getElem?_eq_some_iff.1 h.box).1
  have M1 := Lib.hid (show m + 1 ≤ maxLen by unfold maxLen; omega)
  have M2 := Lib.hid (show (m + 1) * 24 ≤ 140737488355328 by omega)
  have M3 := Lib.hid (show B0 ≤ (w.alloc (.cells #[.slice Al n c] 26)).heap.size by simp; omega)
  have HT := Lib.hid h
  obtain ⟨AT, cT, hT⟩ := Bk.own_form h.own
  subst hT
  have HU := Lib.hid ((Upd.refl (fun b => b = Bb ∨ (Value.slice AT m cT).ownBlock = some b) w).alloc (.cells #[.slice Al n c] 26))
  clear h hm hB0
  go_enter Try.func20, Try.ntmps20
  go_wp2_with (at_builtin; go_loud (refine Bk.wpList_append2 (w.alloc (.cells #[.slice Al n c] 26)) (by rfl) (.tmp 8) (.tmp 10) 50 (by rfl) B0 26 iS _ 1 24 Try.underlying50 hiS hzS0 hzS1 hzS2 rfl (by decide) (.slice AT m cT) m ((List.range m).map vs) (by rfl) (HT.out.own.alloc (.cells #[.slice Al n c] 26)) w.heap.size 1 1 [.slice Al n c] (by rfl) (by decide) (by rfl) (World.news_of_block (heap_alloc_new w (.cells #[.slice Al n c] 26))) (fun u hu => by simp only [List.mem_singleton] at hu; subst hu; rfl) M1.out M2.out M3.out ?_); intro v1 w5 ho5 hg5; obtain ⟨A5, c5, h5⟩ := Bk.own_form ho5; subst h5; have HB5 := Lib.hid (hg5.upd.heap ((Below.heap_alloc w (.cells #[.slice Al n c] 26) Bb hBl).trans HT.out.box) (fun e => HT.out.ne e.1)); obtain ⟨x8, f8⟩ := blk17 HB5.out 8 (.slice AT m cT) rfl; have HO := Lib.hid ho5; have HG := Lib.hid hg5; clear ho5 hg5)
  go_end0
  have hne : (Value.slice A5 (m + 1) c5).ownBlock ≠ some Bb := fun e => by
    rcases HG.out with ⟨e1, _⟩ | ⟨e1, _⟩
    · exact HT.out.ne (e1 ▸ e)
    · rw [e1] at e; simp at e; omega
  have hu5 : Upd (fun b => b = Bb) w5 (w5.setCell ⟨Bb, 8, none⟩ (.slice A5 (m + 1) c5)) := (Upd.refl (fun b => b = Bb) w5).set rfl _
  refine ⟨rfl, _, ⟨?_, ?_, hne⟩, ?_, ?_⟩
  · exact heap_setCell_same w5 Bb 8 _ 60 _ HB5.out
  · rw [Bk.range_setW]; exact hu5.ownsRow HO.out (fun b hb e => hne (by rw [hb, e]))
  · exact (HU.out.trans (HG.out.upd.mono (fun b _ hb => .inr hb.1))).trans (hu5.mono (fun b _ hb => .inl hb))
  · rcases HG.out with ⟨e1, _⟩ | ⟨e1, _⟩
    · exact .inl e1
    · exact .inr (fun b hb => by rw [e1] at hb; simp only [Option.some.injEq] at hb; subst hb; simp)
set_option maxRecDepth 100000 in
set_option maxHeartbeats 8000000 in
theorem own_calls {w : World} {B0 Bb G m cap : Nat} {vs : Nat → Value} {ns : Nat → Nat} {xs : Nat → List Value} (h : BookAt w B0 Bb m (.slice (some ⟨G, 0, none⟩) m cap) vs) (hR : Bk.Rows w B0 34 4 G m vs ns xs) (hG : B0 ≤ G ∧ G < w.heap.size) (hm : m ≤ 1000000) (hns : ∀ j, j < m → ns j ≤ 1048577) (hBb : ¬ B0 ≤ Bb) :
    Calls Try.prog 21 #[.pointer (some ⟨Bb, 0, none⟩)] w fun e w' => e = .returned (.bool true) ∧ Bk.UpdC B0 w w' := by
  have HB := Lib.hid h.box
  have x0 := (blk17 h.box 0 (.slice none 0 0) rfl).1
  have x1 := (blk17 h.box 1 (.slice none 0 0) rfl).1
  have x2 := (blk17 h.box 2 (.slice none 0 0) rfl).1
  have x3 := (blk17 h.box 3 (.slice none 0 0) rfl).1
  have x4 := (blk17 h.box 4 (.slice none 0 0) rfl).1
  have x5 := (blk17 h.box 5 (.slice none 0 0) rfl).1
  have x6 := (blk17 h.box 6 (.slice none 0 0) rfl).1
  have x7 := (blk17 h.box 7 (.slice none 0 0) rfl).1
  have x8 := (blk17 h.box 8 (.slice (some ⟨G, 0, none⟩) m cap) rfl).1
  have x9 := (blk17 h.box 9 (.slice none 0 0) rfl).1
  have x10 := (blk17 h.box 10 (.slice none 0 0) rfl).1
  have x11 := (blk17 h.box 11 (.slice none 0 0) rfl).1
  have x12 := (blk17 h.box 12 (.slice none 0 0) rfl).1
  have x13 := (blk17 h.box 13 (.slice none 0 0) rfl).1
  have x14 := (blk17 h.box 14 (.slice none 0 0) rfl).1
  have x15 := (blk17 h.box 15 (.slice none 0 0) rfl).1
  have x16 := (blk17 h.box 16 (.slice none 0 0) rfl).1
  have hBl := (Array.getElem?_eq_some_iff.1 h.box).1
  have HR := Lib.hid hR
  have HG := Lib.hid hG
  have HNS := Lib.hid hns
  clear h hR hG hns
  go_enter Try.func21, Try.ntmps21
  go_wp2_with fail
  refine (own29_nil _).mono ?_
  rintro e _ ⟨rfl, rfl⟩
  go_wp2_with fail
  refine (own30_nil _).mono ?_
  rintro e _ ⟨rfl, rfl⟩
  go_wp2_with fail
  refine (own31_nil _).mono ?_
  rintro e _ ⟨rfl, rfl⟩
  go_wp2_with fail
  refine (own32_nil _).mono ?_
  rintro e _ ⟨rfl, rfl⟩
  go_wp2_with fail
  refine (own33_nil _).mono ?_
  rintro e _ ⟨rfl, rfl⟩
  go_wp2_with fail
  refine (own34_nil _).mono ?_
  rintro e _ ⟨rfl, rfl⟩
  go_wp2_with fail
  refine (own35_nil _).mono ?_
  rintro e _ ⟨rfl, rfl⟩
  go_wp2_with fail
  refine (own36_nil _).mono ?_
  rintro e _ ⟨rfl, rfl⟩
  go_wp2_with fail
  refine (ownTokens_calls HR.out HG.out hm HNS.out).mono ?_
  rintro e w1 ⟨rfl, hu1⟩
  have HB1 := Lib.hid (hu1.upd.heap HB.out (fun e => by have e : B0 ≤ Bb := e; exact hBb e))
  have HU1 := Lib.hid hu1
  clear hu1 x0 x1 x2 x3 x4 x5 x6 x7 x8 x9 x10 x11 x12 x13 x14 x15 x16
  have x9 := (blk17 HB1.out 9 (.slice none 0 0) rfl).1
  have x10 := (blk17 HB1.out 10 (.slice none 0 0) rfl).1
  have x11 := (blk17 HB1.out 11 (.slice none 0 0) rfl).1
  have x12 := (blk17 HB1.out 12 (.slice none 0 0) rfl).1
  have x13 := (blk17 HB1.out 13 (.slice none 0 0) rfl).1
  have x14 := (blk17 HB1.out 14 (.slice none 0 0) rfl).1
  have x15 := (blk17 HB1.out 15 (.slice none 0 0) rfl).1
  have x16 := (blk17 HB1.out 16 (.slice none 0 0) rfl).1
  go_wp2_with fail
  refine (own38_nil _).mono ?_
  rintro e _ ⟨rfl, rfl⟩
  go_wp2_with fail
  refine (own39_nil _).mono ?_
  rintro e _ ⟨rfl, rfl⟩
  go_wp2_with fail
  refine (own40_nil _).mono ?_
  rintro e _ ⟨rfl, rfl⟩
  go_wp2_with fail
  refine (own41_nil _).mono ?_
  rintro e w2 ⟨rfl, hu2⟩
  have HB2 := Lib.hid (hu2.heap HB1.out (fun x => x))
  have HU2 := Lib.hid (HU1.out.trans (.new hu2))
  clear hu2 x9 x10 x11 x12 x13 x14 x15 x16
  have x9 := (blk17 HB2.out 9 (.slice none 0 0) rfl).1
  have x10 := (blk17 HB2.out 10 (.slice none 0 0) rfl).1
  have x11 := (blk17 HB2.out 11 (.slice none 0 0) rfl).1
  have x12 := (blk17 HB2.out 12 (.slice none 0 0) rfl).1
  have x13 := (blk17 HB2.out 13 (.slice none 0 0) rfl).1
  have x14 := (blk17 HB2.out 14 (.slice none 0 0) rfl).1
  have x15 := (blk17 HB2.out 15 (.slice none 0 0) rfl).1
  have x16 := (blk17 HB2.out 16 (.slice none 0 0) rfl).1
  go_wp2_with fail
  refine (own42_nil _).mono ?_
  rintro e _ ⟨rfl, rfl⟩
  go_wp2_with fail
  refine (own43_nil _).mono ?_
  rintro e _ ⟨rfl, rfl⟩
  go_wp2_with fail
  refine (own44_nil _).mono ?_
  rintro e _ ⟨rfl, rfl⟩
  go_wp2_with fail
  refine (own45_nil _).mono ?_
  rintro e _ ⟨rfl, rfl⟩
  go_wp2_with fail
  go_ret
  exact ⟨rfl, HU2.out⟩
end Go.Proofs.Ytecoahdeafobkaa
