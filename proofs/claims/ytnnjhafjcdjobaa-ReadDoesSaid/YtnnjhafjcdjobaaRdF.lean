/- Read: appending a row, nil or not; joined. -/
import Derived.Test.YtnnjhafjcdjobaaRdE
import Derived.Maps.AppendAt
import Derived.OwnWalk
namespace Go.Proofs.Ytnnjhafjcdjobaa
open Go.RowKit
set_option linter.unusedVariables false
set_option linter.unusedSimpArgs false

/-- What is appended: nil, or a row that starts a block. -/
def SrcRow (w : World) (size : Nat) (x : Value) (m : Nat) (news : List Value) : Prop :=
  (∃ c, x = .slice none 0 c ∧ m = 0 ∧ news = []) ∨ (∃ g c, x = .slice (some ⟨g, 0, none⟩) m c ∧ news.length = m * size ∧ ∀ j u, news[j]? = some u → w.cell? ((⟨g, 0, none⟩ : Addr).add j) = some u)
theorem SrcRow.own {w : World} {base : Nat} {e : TypeId} {size : Nat} {v : Value} {n : Nat} {xs : List Value} (h : w.ownsRow base e size v n xs) : SrcRow w size v n xs := by
  rcases h.2 with ⟨rfl, rfl⟩ | ⟨g, cap, cur, rfl, _⟩
  · exact .inl ⟨0, rfl, rfl, List.eq_nil_of_length_eq_zero (by simpa using h.1)⟩
  · exact .inr ⟨g, cap, rfl, h.1, own_cells h⟩
section
variable {P : Program} (w : World)
theorem run_append_row (base : Nat) (t ty e : TypeId) (i : TypeInfo) (z : Value) (size bytes : Nat) (ht : P.underlying t = some (.slice e)) (hi : P.info? e = some i) (hz : i.zero = some z)
    (hsize : i.size = size) (hby : i.bytes = bytes) (hzs : z.cells.size = size) (hsz : 0 < size)
    (v : Value) (n : Nat) (xs : List Value) (hown : w.ownsRow base e size v n xs) (x : Value) (m : Nat) (news : List Value) (hr : SrcRow w size x m news) (h1 : ∀ u ∈ news, u.oneCell' = true)
    (h63 : n + m ≤ maxLen) (hbytes : (n + m) * bytes ≤ 140737488355328) (hbase : base ≤ w.heap.size) :
    ∃ v' w', (Builtin.append_ #[t, t] ty #[v, x]).run P w = .ok v' w' ∧ w'.ownsRow base e size v' (n + m) (xs ++ news) ∧ w.grownBy w' v.ownBlock ∧
      (v'.ownBlock = v.ownBlock ∨ v'.ownBlock = some w.heap.size) := by
  rcases hr with ⟨c, rfl, rfl, rfl⟩ | ⟨g, c, rfl, hl, hcells⟩
  · refine ⟨v, w, ?_, by simpa using hown, World.grownBy.refl w _, .inl rfl⟩
    rcases hown.2 with ⟨rfl, rfl⟩ | ⟨g, cap, cur, rfl, _, _, hnc, _⟩
    · simp [Builtin.append_, run_underlying ht, sizeOf, typeInfo, hi, Builtin.lenOf, Builtin.firstCells]
    · simp [Builtin.append_, run_underlying ht, sizeOf, typeInfo, hi, Builtin.lenOf, Builtin.firstCells, hnc, storeCells]
  · obtain ⟨v', w', hrun, h2, h3, _, h5⟩ := run_append_own_at (P := P) w base t ty e i z size bytes ht hi hz hsize hby hzs hsz v n xs hown ⟨g, 0, none⟩ m c news hl hcells h1 h63 hbytes hbase
    exact ⟨v', w', hrun, h2, h3, h5⟩
theorem wp_append_row {o : Oper} {a : Act} {K : Act → World → Prop} {Q : Exit → Act → World → Prop} (s x : Operand) (t : TypeId)
    (ho : o.op = .call { callee := .builtin .append, args := #[s, x], argTypes := #[t, t] })
    (base : Nat) (e : TypeId) (i : TypeInfo) (z : Value) (size bytes : Nat) (ht : P.underlying t = some (.slice e)) (hi : P.info? e = some i) (hz : i.zero = some z)
    (hsize : i.size = size) (hby : i.bytes = bytes) (hzs : z.cells.size = size) (hsz : 0 < size)
    (v : Value) (n : Nat) (xs : List Value) (hs : a.eval s = v) (hown : w.ownsRow base e size v n xs) (y : Value) (m : Nat) (news : List Value) (hx : a.eval x = y) (hr : SrcRow w size y m news) (h1 : ∀ u ∈ news, u.oneCell' = true)
    (h63 : n + m ≤ maxLen) (hbytes : (n + m) * bytes ≤ 140737488355328) (hbase : base ≤ w.heap.size)
    (h : ∀ v' w', w'.ownsRow base e size v' (n + m) (xs ++ news) → w.grownBy w' v.ownBlock → (v'.ownBlock = v.ownBlock ∨ v'.ownBlock = some w.heap.size) → K (a.put o.dst v') w') : o.wp P a w K Q := by
  obtain ⟨v', w', hrun, h2, h3, h4⟩ := run_append_row (P := P) w base t o.type e i z size bytes ht hi hz hsize hby hzs hsz v n xs hown y m news hr h1 h63 hbytes hbase
  unfold Oper.wp execOp
  simp only [ho, resolve, invoke, builtin, Sem.run_bind, Sem.run_pure, Result.andThen_ok, List.map_toArray, List.map_cons, List.map_nil, hs, hx, hrun]
  exact h v' w' h2 h3 h4
theorem wpList_append_row {ops : Array Oper} {rest : List Oper} {o : Oper} {a : Act} {Q : Exit → Act → World → Prop} (hgd : o.guard = none) (s x : Operand) (t : TypeId)
    (ho : o.op = .call { callee := .builtin .append, args := #[s, x], argTypes := #[t, t] })
    (base : Nat) (e : TypeId) (i : TypeInfo) (z : Value) (size bytes : Nat) (ht : P.underlying t = some (.slice e)) (hi : P.info? e = some i) (hz : i.zero = some z)
    (hsize : i.size = size) (hby : i.bytes = bytes) (hzs : z.cells.size = size) (hsz : 0 < size)
    (v : Value) (n : Nat) (xs : List Value) (hs : a.eval s = v) (hown : w.ownsRow base e size v n xs) (y : Value) (m : Nat) (news : List Value) (hx : a.eval x = y) (hr : SrcRow w size y m news) (h1 : ∀ u ∈ news, u.oneCell' = true)
    (h63 : n + m ≤ maxLen) (hbytes : (n + m) * bytes ≤ 140737488355328) (hbase : base ≤ w.heap.size)
    (h : ∀ v' w', w'.ownsRow base e size v' (n + m) (xs ++ news) → w.grownBy w' v.ownBlock → (v'.ownBlock = v.ownBlock ∨ v'.ownBlock = some w.heap.size) → wpList P ops Q rest (a.put o.dst v') w') : wpList P ops Q (o :: rest) a w :=
  wpList_plain hgd fun _ hK => wp_append_row w s x t ho base e i z size bytes ht hi hz hsize hby hzs hsz v n xs hs hown y m news hx hr h1 h63 hbytes hbase fun v' w' h2 h3 h4 => hK _ _ (h v' w' h2 h3 h4)
theorem step_append_row {ops : Array Oper} {o : Oper} {a : Act} {K : Act → World → Prop} {Q : Exit → Act → World → Prop} {E : Prop} (hgd : o.guard = none) (s x : Operand) (t : TypeId)
    (ho : o.op = .call { callee := .builtin .append, args := #[s, x], argTypes := #[t, t] })
    (base : Nat) (e : TypeId) (i : TypeInfo) (z : Value) (size bytes : Nat) (ht : P.underlying t = some (.slice e)) (hi : P.info? e = some i) (hz : i.zero = some z)
    (hsize : i.size = size) (hby : i.bytes = bytes) (hzs : z.cells.size = size) (hsz : 0 < size)
    (v : Value) (n : Nat) (xs : List Value) (hs : a.eval s = v) (hown : w.ownsRow base e size v n xs) (y : Value) (m : Nat) (news : List Value) (hx : a.eval x = y) (hr : SrcRow w size y m news) (h1 : ∀ u ∈ news, u.oneCell' = true)
    (h63 : n + m ≤ maxLen) (hbytes : (n + m) * bytes ≤ 140737488355328) (hbase : base ≤ w.heap.size)
    (h : ∀ v' w', w'.ownsRow base e size v' (n + m) (xs ++ news) → w.grownBy w' v.ownBlock → (v'.ownBlock = v.ownBlock ∨ v'.ownBlock = some w.heap.size) → K (a.put o.dst v') w') :
    if Region.wanted o (yielded ops a.tmps) = true then Oper.wp P o a w K Q else E := by
  have hw : Region.wanted o (yielded ops a.tmps) = true := by simp [Region.wanted, hgd]
  rw [if_pos hw]
  exact wp_append_row w s x t ho base e i z size bytes ht hi hz hsize hby hzs hsz v n xs hs hown y m news hx hr h1 h63 hbytes hbase h
end
theorem elCells_one (es : List El) (hk : ∀ e ∈ es, ∃ A n c, e.kv = .slice A n c) : ∀ u ∈ elCells es, u.oneCell' = true := by
  intro u hu
  simp only [elCells, List.mem_flatMap] at hu
  obtain ⟨x, hx, hx2⟩ := hu
  obtain ⟨A, n, c, hkv⟩ := hk x hx
  simp only [El.cells, datC, hkv, List.mem_cons, List.not_mem_nil, or_false] at hx2
  rcases hx2 with rfl | rfl | rfl | rfl | rfl <;> rfl
theorem alloc44 (w : World) (o1 o2 o3 o4 : Obj) : ((((w.alloc o1).alloc o2).alloc o3).alloc o4).heap[w.heap.size + 1 + 1 + 1]? = some o4 := by have := heap_alloc_new (((w.alloc o1).alloc o2).alloc o3) o4; simpa using this
theorem own_form {w : World} {base : Nat} {e : TypeId} {size : Nat} {v : Value} {n : Nat} {xs : List Value} (h : w.ownsRow base e size v n xs) : ∃ A c, v = .slice A n c := by
  rcases h.2 with ⟨rfl, rfl⟩ | ⟨g, cap, cur, rfl, _⟩
  · exact ⟨_, _, rfl⟩
  · exact ⟨_, _, rfl⟩
theorem Own.es {w : World} {base : Nat} {v : Value} {l : List Dat} {bs : List Nat} (h : Own w base v l bs) :
    ∃ es : List El, l = es.map El.d ∧ bs = v.ownBlock.toList ++ es.flatMap El.bs ∧ w.ownsRow base 58 5 v es.length (elCells es) ∧ (∀ e ∈ es, Own w base e.kv e.d.kids e.bs) ∧ ∀ u ∈ elCells es, u.oneCell' = true := by
  obtain ⟨es, h1, h2, h3, h4⟩ := h.inv
  exact ⟨es, h1, h2, h3, h4, elCells_one es fun e he => by obtain ⟨A, c, h, _⟩ := (h4 e he).len; exact ⟨A, _, c, h⟩⟩
/-- The parts of a row that has grown. -/
theorem own_grown {w w1 : World} {base : Nat} {v v1 : Value} (es es2 : List El) (hk : ∀ e ∈ es ++ es2, Own w base e.kv e.d.kids e.bs) (hr : w1.ownsRow base 58 5 v1 (es.length + es2.length) (elCells es ++ elCells es2)) (hg : w.grownBy w1 v.ownBlock)
    (hat : v1.ownBlock = v.ownBlock ∨ v1.ownBlock = some w.heap.size) (hnd : (v.ownBlock.toList ++ (es ++ es2).flatMap El.bs).Nodup) :
    ∃ bs, Own w1 base v1 ((es ++ es2).map El.d) bs ∧ bs.Nodup ∧ ∀ b ∈ bs, v.ownBlock = some b ∨ b ∈ (es ++ es2).flatMap El.bs ∨ b = w.heap.size := by
  have hlt : ∀ b ∈ (es ++ es2).flatMap El.bs, b < w.heap.size := by
    intro b hb
    obtain ⟨e, he, hb⟩ := List.mem_flatMap.1 hb
    exact ((hk e he).blocks b hb).2
  have hdis : ∀ b ∈ (es ++ es2).flatMap El.bs, v.ownBlock ≠ some b := by
    intro b hb h
    rw [h] at hnd
    have := (List.nodup_cons.1 hnd).1
    exact this hb
  refine ⟨_, own_append es es2 hk (by rw [List.length_append, elCells_append]; exact hr) hg hdis, ?_, ?_⟩
  · rcases hat with h | h
    · rw [h]; exact hnd
    · rw [h]
      refine List.nodup_cons.2 ⟨fun hx => ?_, (List.nodup_append.1 hnd).2.1⟩
      have := hlt _ hx
      omega
  · intro b hb
    rcases List.mem_append.1 hb with hb | hb
    · rcases hat with h | h
      · rw [h] at hb; exact .inl (by simpa using hb)
      · rw [h] at hb; simp at hb; exact .inr (.inr hb)
    · exact .inr (.inl hb)

set_option maxHeartbeats 1000000 in
set_option maxRecDepth 100000 in
theorem joined_list (w : World) (base : Nat) (kids : List Dat) (kv : Value) (bs : List Nat) (x : Dat) (tkv : Value) (bsx : List Nat) (h : Own w base kv kids bs) (hx : Own w base tkv x.kids bsx) (hnd : (bs ++ bsx).Nodup) (hb : base ≤ w.heap.size)
    (hlen : kids.length + x.kids.length ≤ 3000000) (hk : x.k = 5) :
    Calls Try.prog 129 #[datV (lst kids false) kv, datV x tkv] w fun e w' => ∃ kv' bs', e = .returned (datV (joinD kids x) kv') ∧ Own w' base kv' (kids ++ x.kids) bs' ∧ bs'.Nodup ∧ Upd (fun b => kv.ownBlock = some b) w w' ∧ (∀ b ∈ bs', b ∈ bs ∨ b ∈ bsx ∨ w.heap.size ≤ b) := by
  obtain ⟨i0, hi0, hz0, hz1, hz2⟩ := info_parts info58
  obtain ⟨es, rfl, rfl, hr, hks, h1⟩ := h.es
  obtain ⟨esx, hxe, rfl, hrx, hksx, h1x⟩ := hx.es
  obtain ⟨A, c, rfl⟩ := own_form hr
  obtain ⟨Ax, cx, rfl⟩ := own_form hrx
  have hjd : joinD (es.map El.d) x = lst (es.map El.d ++ x.kids) x.dot := by rw [joinD, if_pos hk]
  rw [hjd]
  obtain ⟨xk, xn, xt, xkids, xdot⟩ := x
  simp only [Dat.k] at hk
  simp only [Dat.kids] at hxe hlen
  simp only [Dat.kids, Dat.dot, datV, Dat.k, Dat.n, Dat.t, lst]
  subst hk hxe
  simp only [List.length_map] at hlen
  have m3 : es.length + esx.length ≤ maxLen := by unfold maxLen; omega
  have m4 : (es.length + esx.length) * 64 ≤ 140737488355328 := by omega
  have hnd2 : ((Value.slice A es.length c).ownBlock.toList ++ (es ++ esx).flatMap El.bs).Nodup ∧ True := by
    refine ⟨?_, trivial⟩
    rw [List.flatMap_append]
    rw [List.append_assoc] at hnd
    have hsub : List.Sublist ((Value.slice A es.length c).ownBlock.toList ++ (es.flatMap El.bs ++ esx.flatMap El.bs)) ((Value.slice A es.length c).ownBlock.toList ++ (es.flatMap El.bs ++ ((Value.slice Ax esx.length cx).ownBlock.toList ++ esx.flatMap El.bs))) :=
      (List.Sublist.refl _).append ((List.Sublist.refl _).append (List.sublist_append_right _ _))
    exact hnd.sublist hsub
  have HR := Lib.hid hr
  have HRX := Lib.hid hrx
  have HK := Lib.hid (show ∀ e ∈ es ++ esx, Own w base e.kv e.d.kids e.bs from fun e he => by
    rcases List.mem_append.1 he with he | he
    · exact hks e he
    · exact hksx e he)
  have HND := Lib.hid hnd2.1
  have hlt := own_lt hr
  have HLT := Lib.hid hlt
  have H1X := Lib.hid h1x
  replace m3 := Lib.hid m3
  replace m4 := Lib.hid m4
  have HB := Lib.hid hb
  clear h hx hks hksx h1 hjd hlen hnd hnd2 hr hrx hlt h1x hb
  go_enter Try.func129, Try.ntmps129
  go_upto_region 3 with (at_builtin; refine wpList_append_row _ rfl (.tmp 9) (.tmp 11) 23 rfl base 58 i0 _ 5 64 Try.underlying23 hi0 hz0 hz1 hz2 rfl (by decide) _ es.length (elCells es) rfl (((HR.out.alloc _).alloc _).alloc _) _ esx.length (elCells esx) rfl (SrcRow.own (((HRX.out.alloc _).alloc _).alloc _)) H1X.out m3.out m4.out (by simp; have := HB.out; omega) ?_; intro v1 w1 ho1 hg1 hat1; obtain ⟨A1, c1, rfl⟩ := own_form ho1; have hu2 := (Upd.refl (fun q => (Value.slice A es.length c).ownBlock = some q) _).grown hg1 (fun q hq _ => hq); have hs0 := hu2.heap (k := w.heap.size) (by exact alloc31 _ _ _ _) (fun x => by have := (HLT.out _ x).2; omega); have hs1 := hu2.heap (k := w.heap.size + 1) (by exact alloc32 _ _ _ _) (fun x => by have := (HLT.out _ x).2; omega); have hs2 := hu2.heap (k := w.heap.size + 1 + 1) (by exact alloc33 _ _ _ _) (fun x => by have := (HLT.out _ x).2; omega); obtain ⟨⟨a0, a1, a2, a3, a4⟩, af⟩ := blk5 hs0; obtain ⟨⟨b0, b1, b2, b3, b4⟩, bf⟩ := blk5 hs1; obtain ⟨⟨c0, c1', c2, c3, c4⟩, cf⟩ := blk5 hs2; have hsz1 := hu2.size; have HS0 := Lib.hid hs0; have HS2 := Lib.hid hs2; have HU2 := Lib.hid hu2; have HO1 := Lib.hid ho1; have HG1 := Lib.hid hg1; have HAT := Lib.hid hat1; clear hs0 hs1 hs2 hu2 ho1 hg1 hat1)
  simp only [World.size_alloc] at hsz1
  go_wp2_with fail
  obtain ⟨bs', hown, hnd', hmem⟩ := own_grown es esx (fun e he => (((HK.out e he).alloc _).alloc _).alloc _) HO1.out HG1.out HAT.out HND.out
  simp only [World.size_alloc] at hmem
  have hcases : ∀ b ∈ bs', (b < w.heap.size ∧ (b ∈ (Value.slice A es.length c).ownBlock.toList ++ List.flatMap El.bs es ∨ b ∈ (Value.slice Ax esx.length cx).ownBlock.toList ++ List.flatMap El.bs esx)) ∨ b = w.heap.size + 1 + 1 + 1 := by
    intro b hb
    rcases hmem b hb with h | h | h
    · have h' : (Value.slice A es.length c).ownBlock = some b := h
      exact .inl ⟨(HLT.out b h').2, .inl (by rw [h']; simp)⟩
    · obtain ⟨e, he, hbe⟩ := List.mem_flatMap.1 h
      refine .inl ⟨((HK.out e he).blocks b hbe).2, ?_⟩
      rcases List.mem_append.1 he with he | he
      · exact .inl (List.mem_append.2 (.inr (List.mem_flatMap.2 ⟨e, he, hbe⟩)))
      · exact .inr (List.mem_append.2 (.inr (List.mem_flatMap.2 ⟨e, he, hbe⟩)))
    · exact .inr h
  have hn0 : w.heap.size ∉ bs' := fun h => by have := hcases _ h; omega
  have hn2 : w.heap.size + 1 + 1 ∉ bs' := fun h => by have := hcases _ h; omega
  refine bodyPost_ret (results_cell1 rfl _ _ (w.heap.size + 1 + 1) 58 #[_, _, _, _, _] _ rfl (by exact bset5 (bother (bother HS2.out (by omega) _) (by omega) _)) Try.underlying58 rfl size58) rfl ⟨_, bs', rfl, ?_, hnd', ?_, fun b hb => ?_⟩
  · rw [← List.map_append]
    exact ((hown.setCell hn0 _).setCell hn0 _).set5 hn2
  · have h3 : Upd (fun q => (Value.slice A es.length c).ownBlock = some q) w _ := ((((Upd.refl (fun q => (Value.slice A es.length c).ownBlock = some q) w).alloc _).alloc _).alloc _).trans HU2.out
    exact upd5 (by omega) ((h3.new (Nat.le_refl _) _).new (Nat.le_refl _) _)
  · rcases hcases b hb with ⟨_, h | h⟩ | h
    · exact .inl h
    · exact .inr (.inl h)
    · exact .inr (.inr (by omega))

set_option maxRecDepth 100000 in
theorem joined_one (w : World) (base : Nat) (kids : List Dat) (kv : Value) (bs : List Nat) (x : Dat) (tkv : Value) (bsx : List Nat) (h : Own w base kv kids bs) (hx : Own w base tkv x.kids bsx) (hnd : (bs ++ bsx).Nodup) (hb : base ≤ w.heap.size)
    (hlen : kids.length + 1 ≤ 3000000) (hk : (x.k == 5) = false) :
    Calls Try.prog 129 #[datV (lst kids false) kv, datV x tkv] w fun e w' => ∃ kv' bs', e = .returned (datV (joinD kids x) kv') ∧ Own w' base kv' (kids ++ [x]) bs' ∧ bs'.Nodup ∧ Upd (fun b => kv.ownBlock = some b) w w' ∧ (∀ b ∈ bs', b ∈ bs ∨ b ∈ bsx ∨ w.heap.size ≤ b) := by
  obtain ⟨i0, hi0, hz0, hz1, hz2⟩ := info_parts info58
  obtain ⟨es, rfl, rfl, hr, hks, h1⟩ := h.es
  obtain ⟨A, c, rfl⟩ := own_form hr
  obtain ⟨Ax, cx, rfl, -⟩ := hx.len
  have hjd : joinD (es.map El.d) x = lst (es.map El.d ++ [x]) true := by rw [joinD, if_neg (by simpa using hk)]
  rw [hjd]
  obtain ⟨xk, xn, xt, xkids, xdot⟩ := x
  simp only [Dat.kids, Dat.dot, datV, Dat.k, Dat.n, Dat.t, lst] at hk hx ⊢
  simp only [List.length_map] at hlen ⊢
  have m3 : es.length + 1 ≤ maxLen := by unfold maxLen; omega
  have m4 : (es.length + 1) * 64 ≤ 140737488355328 := by omega
  have hnd2 : ((Value.slice A es.length c).ownBlock.toList ++ (es ++ [El.mk (.mk xk xn xt xkids xdot) (.slice Ax xkids.length cx) bsx]).flatMap El.bs).Nodup := by
    rw [List.flatMap_append, ← List.append_assoc]
    simpa using hnd
  have HR := Lib.hid hr
  have HK := Lib.hid (show ∀ e ∈ es ++ [El.mk (.mk xk xn xt xkids xdot) (.slice Ax xkids.length cx) bsx], Own w base e.kv e.d.kids e.bs from fun e he => by
    rcases List.mem_append.1 he with he | he
    · exact hks e he
    · rw [List.mem_singleton.1 he]; exact hx)
  have HND := Lib.hid hnd2
  have hlt := own_lt hr
  have HLT := Lib.hid hlt
  have h1x : ∀ u ∈ elCells [El.mk (.mk xk xn xt xkids xdot) (.slice Ax xkids.length cx) bsx], u.oneCell' = true := elCells_one _ fun e he => by rw [List.mem_singleton.1 he]; exact ⟨_, _, _, rfl⟩
  have H1X := Lib.hid h1x
  replace m3 := Lib.hid m3
  replace m4 := Lib.hid m4
  have HB := Lib.hid hb
  have HXB := Lib.hid (fun b hb => (hx.blocks b hb).2)
  clear h hx hks h1 hjd hlen hnd hnd2 hr hlt h1x hb
  go_enter Try.func129, Try.ntmps129
  go_upto_region 6 with (at_builtin; go_loud (refine wpList_append_row _ rfl (.tmp 19) (.tmp 21) 23 rfl base 58 i0 _ 5 64 Try.underlying23 hi0 hz0 hz1 hz2 rfl (by decide) _ es.length (elCells es) rfl ((((HR.out.alloc _).alloc _).alloc _).alloc _) _ 1 (elCells [El.mk (.mk xk xn xt xkids xdot) (.slice Ax xkids.length cx) bsx]) rfl (.inr ⟨w.heap.size + 1 + 1 + 1, 1, rfl, rfl, World.news_of_block (by exact alloc44 _ _ _ _ _)⟩) H1X.out m3.out m4.out (by simp; have := HB.out; omega) ?_); intro v1 w1 ho1 hg1 hat1; obtain ⟨A1, c1, rfl⟩ := own_form ho1; have hu2 := (Upd.refl (fun q => (Value.slice A es.length c).ownBlock = some q) _).grown hg1 (fun q hq _ => hq); have hs0 := hu2.heap (k := w.heap.size) (by exact halloc (alloc31 _ _ _ _) _) (fun x => by have := (HLT.out _ x).2; omega); have hs2 := hu2.heap (k := w.heap.size + 1 + 1) (by exact halloc (alloc33 _ _ _ _) _) (fun x => by have := (HLT.out _ x).2; omega); obtain ⟨⟨a0, a1, a2, a3, a4⟩, af⟩ := blk5 hs0; obtain ⟨⟨c0, c1', c2, c3, c4⟩, cf⟩ := blk5 hs2; have hsz1 := hu2.size; have HS0 := Lib.hid hs0; have HS2 := Lib.hid hs2; have HU2 := Lib.hid hu2; have HO1 := Lib.hid ho1; have HG1 := Lib.hid hg1; have HAT := Lib.hid hat1; clear hs0 hs2 hu2 ho1 hg1 hat1)
  simp only [World.size_alloc] at hsz1
  go_wp2_with fail
  obtain ⟨bs', hown, hnd', hmem⟩ := own_grown es [El.mk (.mk xk xn xt xkids xdot) (.slice Ax xkids.length cx) bsx] (fun e he => ((((HK.out e he).alloc _).alloc _).alloc _).alloc _) HO1.out HG1.out HAT.out HND.out
  simp only [World.size_alloc] at hmem
  have hcases : ∀ b ∈ bs', (b < w.heap.size ∧ (b ∈ (Value.slice A es.length c).ownBlock.toList ++ List.flatMap El.bs es ∨ b ∈ bsx)) ∨ b = w.heap.size + 1 + 1 + 1 + 1 := by
    intro b hb
    rcases hmem b hb with h | h | h
    · have h' : (Value.slice A es.length c).ownBlock = some b := h
      exact .inl ⟨(HLT.out b h').2, .inl (by rw [h']; simp)⟩
    · obtain ⟨e, he, hbe⟩ := List.mem_flatMap.1 h
      refine .inl ⟨((HK.out e he).blocks b hbe).2, ?_⟩
      rcases List.mem_append.1 he with he | he
      · exact .inl (List.mem_append.2 (.inr (List.mem_flatMap.2 ⟨e, he, hbe⟩)))
      · rw [List.mem_singleton.1 he] at hbe; exact .inr hbe
    · exact .inr h
  have hn0 : w.heap.size ∉ bs' := fun h => by have := hcases _ h; omega
  have hn2 : w.heap.size + 1 + 1 ∉ bs' := fun h => by have := hcases _ h; omega
  refine bodyPost_ret (results_cell1 rfl _ _ (w.heap.size + 1 + 1) 58 #[_, _, _, _, _] _ rfl (by exact bset5 (bother (bother HS2.out (by omega) _) (by omega) _)) Try.underlying58 rfl size58) rfl ⟨_, bs', rfl, ?_, hnd', ?_, fun b hb => ?_⟩
  · have : List.map El.d es ++ [Dat.mk xk xn xt xkids xdot] = List.map El.d (es ++ [El.mk (.mk xk xn xt xkids xdot) (.slice Ax xkids.length cx) bsx]) := by simp
    rw [this]
    exact ((hown.setCell hn0 _).setCell hn0 _).set5 hn2
  · have h3 : Upd (fun q => (Value.slice A es.length c).ownBlock = some q) w _ := (((((Upd.refl (fun q => (Value.slice A es.length c).ownBlock = some q) w).alloc _).alloc _).alloc _).alloc _).trans HU2.out
    exact upd5 (by omega) ((h3.new (Nat.le_refl _) _).new (Nat.le_refl _) _)
  · rcases hcases b hb with ⟨_, h | h⟩ | h
    · exact .inl h
    · exact .inr (.inl h)
    · exact .inr (.inr (by omega))
end Go.Proofs.Ytnnjhafjcdjobaa
