/- CycleEnds: the rounds, in plain Lean. -/
import Derived.Test.YtgfabhioliljmaaCeG
namespace Go.Proofs.Ytgfabhioliljmaa
open Go.RowKit
set_option linter.unusedVariables false
set_option linter.unusedSimpArgs false

/-- Where a cycle is, of a round's head. -/
structure Sta where
  x : Wd
  c : Cyc
  steps : Int
  last : Int
  checks : Int
  root : Int
  swept : Int
  freed : Int
  i : Int
def Phase (n g : Int) (t : Sta) : Prop :=
  (t.c = ⟨0, 0, 0, 0, 5, true⟩ ∧ t.i = 0 ∧ t.steps = 0 ∧ t.last = 0 ∧ t.checks = 0 ∧ t.root = 0 ∧ t.swept = 0 ∧ t.freed = 0 ∧ cnt t.x.sc t.x.td = 0) ∨
  (t.c = ⟨1, t.root, 0, 0, 6, false⟩ ∧ 0 ≤ t.root ∧ t.root ≤ g ∧ t.steps = 1 + t.root + cnt t.x.sc t.x.td ∧ 0 ≤ t.last ∧ t.last ≤ 2 ∧ (t.root < g → t.last ≤ 1) ∧ t.checks = 0 ∧ t.swept = 0 ∧ t.freed = 0) ∨
  (t.c = ⟨2, 0, 0, 0, 6, false⟩ ∧ t.root = g ∧ 1 ≤ t.steps ∧ t.steps + t.x.grey + t.x.left ≤ 1 + g + t.x.l.length + n ∧ 0 ≤ t.last ∧ t.last ≤ 3 ∧ t.checks = 0 ∧ t.swept = 0 ∧ t.freed = 0) ∨
  (t.c = ⟨3, 0, t.swept, t.freed, 6, false⟩ ∧ t.root = g ∧ 1 ≤ t.steps ∧ t.steps ≤ 2 + g + t.x.l.length + n + t.swept ∧ 0 ≤ t.last ∧ t.last ≤ 5 ∧ t.checks = 1 ∧ 0 ≤ t.freed ∧ t.freed ≤ t.swept ∧ t.swept ≤ n)
structure Inv (n g : Int) (t : Sta) : Prop where
  ok : WOk t.x
  gn : t.x.grey + t.x.left ≤ n
  ts : ∀ k (h1 : k < t.x.td.length) (h2 : k < t.x.l.length), t.x.td[k] = true → t.x.l[k].still = false
  i0 : 0 ≤ t.i
  il : t.i + owe t.x.sc t.x.lt ≤ t.steps + 4 * t.x.l.length
  ph : Phase n g t
theorem Inv.bounds {n g : Int} {t : Sta} (h : Inv n g t) (hn : 0 ≤ n ∧ n < 300) (hg : 0 ≤ g ∧ g < 65) :
    0 ≤ t.steps ∧ t.steps ≤ 3000 ∧ 0 ≤ t.i ∧ t.i ≤ 4000 ∧ 0 ≤ t.root ∧ t.root ≤ 65 ∧ 0 ≤ t.swept ∧ t.swept ≤ 300 ∧ 0 ≤ t.freed ∧ t.freed ≤ 300 ∧ 0 ≤ t.checks ∧ t.checks ≤ 1 ∧ 0 ≤ t.last ∧ t.last ≤ 6 := by
  obtain ⟨ok, gn, ts, i0, il, ph⟩ := h
  have h8 := ok.n8
  have hc := cnt_le t.x.sc t.x.td
  have hs := ok.ns
  have g0 := ok.g0
  have l0 := ok.l0
  unfold Phase at ph
  omega
/-- Which round it is, and what is behind it. -/
inductive Round (n g : Int) (t : Sta) : Prop
  | begin (hd : nextD t.c (aroW t.x n g) = ⟨18, 0, 0, 0⟩) (hs : ∀ b, stepC t.c (aroW t.x n g) b = (⟨1, 0, 0, 0, 6, false⟩, 0)) (hl : t.last = 0) (h0 : t.steps = 0)
      (hi : Inv n g { t with c := ⟨1, 0, 0, 0, 6, false⟩, steps := t.steps + 1, i := t.i + 1 })
  | root (hd : nextD t.c (aroW t.x n g) = ⟨19, t.root, 0, 0⟩) (hs : ∀ b, stepC t.c (aroW t.x n g) b = (⟨1, t.root + 1, 0, 0, 6, false⟩, 0)) (hl : t.last ≤ 1) (h0 : 0 < t.steps)
      (hi : Inv n g { t with x := shadeW 1 t.x, c := ⟨1, t.root + 1, 0, 0, 6, false⟩, steps := t.steps + 1, last := 1, root := t.root + 1, i := t.i + 1 })
  | told (k : Nat) (hk : k < t.x.l.length) (ht : (aroW t.x n g).thread = (k : Int) + 1) (hd : nextD t.c (aroW t.x n g) = ⟨0, 0, 0, 0⟩) (hto : t.x.td[k]? = some true)
      (hi : Inv n g { t with x := laysW k t.x, i := t.i + 1 })
  | ask (k : Nat) (hk : k < t.x.l.length) (ht : (aroW t.x n g).thread = (k : Int) + 1) (hst : (aroW t.x n g).still = false) (hd : nextD t.c (aroW t.x n g) = ⟨20, 0, (k : Int) + 1, 0⟩) (hto : t.x.td[k]? = some false) (hs : ∀ b, stepC t.c (aroW t.x n g) b = (t.c, 0)) (hl : t.last ≤ 2) (h0 : 0 < t.steps)
      (hi : Inv n g { t with x := { bornW k t.x with td := (bornW k t.x).td.set k true }, steps := t.steps + 1, last := 2, i := t.i + 1 })
  | still (k : Nat) (hk : k < t.x.l.length) (ht : (aroW t.x n g).thread = (k : Int) + 1) (hst : (aroW t.x n g).still = true) (hd : nextD t.c (aroW t.x n g) = ⟨21, 0, (k : Int) + 1, 0⟩) (hs : ∀ b, stepC t.c (aroW t.x n g) b = (t.c, 0)) (hl : t.last ≤ 2) (h0 : 0 < t.steps)
      (hi : Inv n g { t with x := shadeW (pickI (shdW k t.x) 5) { t.x with sc := t.x.sc.set k true }, steps := t.steps + 1, last := 2, i := t.i + 1 })
  | scan (hd : nextD t.c (aroW t.x n g) = ⟨22, 0, 0, 0⟩) (hg : 0 < t.x.grey) (hs : ∀ b, stepC t.c (aroW t.x n g) b = (⟨2, 0, 0, 0, 6, false⟩, 0)) (hl : t.last ≤ 3) (h0 : 0 < t.steps)
      (hi : Inv n g { t with x := shadeW 2 { t.x with grey := t.x.grey - 1 }, c := ⟨2, 0, 0, 0, 6, false⟩, steps := t.steps + 1, last := 3, i := t.i + 1 })
  | check (hd : nextD t.c (aroW t.x n g) = ⟨23, 0, 0, 0⟩) (hg : t.x.grey = 0) (hs : ∀ b, stepC t.c (aroW t.x n g) b = (⟨3, 0, 0, 0, 6, false⟩, 0)) (hl : t.last ≤ 4) (h0 : 0 < t.steps)
      (hi : Inv n g { t with c := ⟨3, 0, 0, 0, 6, false⟩, steps := t.steps + 1, last := 4, checks := t.checks + 1, i := t.i + 1 })
  | sweep (hd : nextD t.c (aroW t.x n g) = ⟨24, 0, 0, t.swept⟩) (hs : ∀ b, stepC t.c (aroW t.x n g) b = (⟨3, 0, t.swept + 1, (if b = true then t.freed + 1 else t.freed), 6, false⟩, 0)) (hl : t.last ≤ 5) (h0 : 0 < t.steps)
      (hi : ∀ b : Bool, Inv n g { t with c := ⟨3, 0, t.swept + 1, (if b = true then t.freed + 1 else t.freed), 6, false⟩, steps := t.steps + 1, last := 5, swept := t.swept + 1, freed := (if b = true then t.freed + 1 else t.freed), i := t.i + 1 })
  | finish (hd : nextD t.c (aroW t.x n g) = ⟨25, 0, 0, 0⟩) (hf : t.c.f = t.freed) (hs : ∀ b, stepC t.c (aroW t.x n g) b = (⟨0, 0, 0, 0, 6, false⟩, 0)) (hl : t.last ≤ 6) (h0 : 0 < t.steps)
      (hm : t.steps + 1 ≤ 2 * n + g + t.x.l.length + 3) (hc : t.checks = 1) (hr : t.root = g) (hw : t.swept = n)
theorem pick_pos (c : Int) : 0 ≤ pickI c 5 := (pickI_lt c 5 (by omega)).1
theorem aro_cells (x : Wd) (n g : Int) : (aroW x n g).cells = n ∧ (aroW x n g).globals = g ∧ (aroW x n g).grey = decide (0 < x.grey) := ⟨rfl, rfl, rfl⟩
theorem step_of {c : Cyc} {a : Aro} {d : Doo} (hf : fitsB c a = true) (hd : nextD c a = d) (b : Bool) : stepC c a b = stepW d.w c b := by
  unfold stepC
  rw [if_neg (by rw [hf]; simp), hd]
theorem Inv.round {n g : Int} {t : Sta} (h : Inv n g t) (hn : 0 ≤ n ∧ n < 300) (hg : 0 ≤ g ∧ g < 65) : Round n g t := by
  have hb := h.bounds hn hg
  obtain ⟨ok, gn, ts, i0, il, ph⟩ := h
  have h8 := ok.n8
  have hcl := cnt_le t.x.sc t.x.td
  have hs := ok.ns
  have htd := ok.nt
  have hnn := ok.nn
  have g0 := ok.g0
  have l0 := ok.l0
  have w1 : ∀ v : Int, 0 ≤ v → v ≤ 5000 → wrap64 (v + 1) = v + 1 := fun v h1 h2 => IntWalk.wrap64_in _ (by omega)
  have hthr : 0 ≤ (aroW t.x n g).thread := by
    rcases arX_found t.x hs htd t.x.l.length 0 (by omega) with ⟨_, e⟩ | ⟨k, _, _, _, _, e⟩
    · show 0 ≤ (arX t.x 0).1; rw [e]; exact Int.le_refl _
    · show 0 ≤ (arX t.x 0).1; rw [e]; show (0 : Int) ≤ (k : Int) + 1; omega
  have fb : ∀ c : Cyc, mayB c = true → 0 ≤ c.g → c.g ≤ g → c.s ≤ n → fitsB c (aroW t.x n g) = true := by
    intro c h1 h2 h3 h4
    unfold fitsB fitsA
    rw [h1, Bool.true_and]
    exact decide_eq_true ⟨hn.1, hg.1, hthr, h3, h4⟩
  obtain ⟨x, c, steps, last, checks, root, swept, freed, i⟩ := t
  unfold Phase at ph
  dsimp only at *
  have scanRound : ∀ c : Cyc, (c = ⟨1, root, 0, 0, 6, false⟩ ∨ c = ⟨2, 0, 0, 0, 6, false⟩) → root = g → 1 ≤ steps → steps + x.grey + x.left ≤ 1 + g + x.l.length + n → 0 ≤ last → last ≤ 3 → checks = 0 → swept = 0 → freed = 0 → (c.ph = 1 → (aroW x n g).thread = 0) →
      Round n g ⟨x, c, steps, last, checks, root, swept, freed, i⟩ := by
    intro c hc hr h1 h2 h3 h4 h5 h6 h7 h9
    have hf : fitsB c (aroW x n g) = true := by
      rcases hc with rfl | rfl
      · exact fb _ (by simp [mayB, Cyc.bad, trim]; omega) (by show 0 ≤ root; omega) (by show root ≤ g; omega) hn.1
      · exact fb _ (by simp [mayB, Cyc.bad, trim]) (by show (0 : Int) ≤ 0; omega) hg.1 hn.1
    have hnx : nextD c (aroW x n g) = if 0 < x.grey then ⟨22, 0, 0, 0⟩ else ⟨23, 0, 0, 0⟩ := by
      unfold nextD
      rw [if_neg (by rw [hf]; simp)]
      rcases hc with rfl | rfl
      · rw [if_neg (by simp), if_neg (by show ¬ ((1 : Int) = 1 ∧ root < g); omega), if_neg (by have := h9 rfl; simp [this]), if_pos (.inl rfl), (aro_cells x n g).2.2]
        simp
      · rw [if_neg (by simp), if_neg (by simp), if_neg (by simp), if_pos (.inr rfl), (aro_cells x n g).2.2]
        simp
    by_cases hgr : 0 < x.grey
    · rw [if_pos hgr] at hnx
      refine .scan hnx hgr (fun b => ?_) h4 (by show 0 < steps; omega) ⟨?_, ?_, ts, ?_, ?_, .inr (.inr (.inl ⟨rfl, hr, ?_, ?_, ?_, ?_, h5, h6, h7⟩))⟩
      · rw [step_of hf hnx]
        rcases hc with rfl | rfl <;> simp [stepW, trim]
      · obtain ⟨h1, h2, h3, h4, h5, h6, h7, h8, h9⟩ := ok
        exact WOk.shade (x := { x with grey := x.grey - 1 }) ⟨h1, h2, h3, h4, (by show 0 ≤ x.grey - 1; omega), h6, (by show x.grey - 1 + x.left ≤ 300; omega), h8, h9⟩ 2 (by omega)
      · simp only [shadeW]; omega
      · show 0 ≤ i + 1; omega
      · show i + 1 + (owe x.sc x.lt : Int) ≤ steps + 1 + 4 * (x.l.length : Int); omega
      · show 1 ≤ steps + 1; omega
      · simp only [shadeW]; omega
      · show (0 : Int) ≤ 3; omega
      · show (3 : Int) ≤ 3; omega
    · rw [if_neg hgr] at hnx
      refine .check hnx (by show x.grey = 0; omega) (fun b => ?_) (by show last ≤ 4; omega) (by show 0 < steps; omega) ⟨ok, gn, ts, ?_, ?_, .inr (.inr (.inr ⟨?_, hr, ?_, ?_, ?_, ?_, ?_, ?_, ?_, ?_⟩))⟩
      · rw [step_of hf hnx]
        rcases hc with rfl | rfl <;> simp [stepW, trim]
      · show 0 ≤ i + 1; omega
      · show i + 1 + (owe x.sc x.lt : Int) ≤ steps + 1 + 4 * (x.l.length : Int); omega
      · simp [h6, h7]
      · show 1 ≤ steps + 1; omega
      · show steps + 1 ≤ 2 + g + (x.l.length : Int) + n + swept; omega
      · show (0 : Int) ≤ 4; omega
      · show (4 : Int) ≤ 5; omega
      · show checks + 1 = 1; omega
      · show 0 ≤ freed; omega
      · show freed ≤ swept; omega
      · show swept ≤ n; omega
  rcases ph with ⟨rfl, rfl, rfl, rfl, rfl, rfl, rfl, rfl, hc⟩ | ⟨rfl, hr0, hr1, hst, hl0, hl1, hl2, rfl, rfl, rfl⟩ | ⟨rfl, hr, h1, h2, h3, h4, h5, h6, h7⟩ | ⟨rfl, hr, h1, h2, h3, h4, h5, h6, h7, h9⟩
  · have hf : fitsB ⟨0, 0, 0, 0, 5, true⟩ (aroW x n g) = true := fb _ (by simp [mayB, Cyc.bad, trim]) (by show (0 : Int) ≤ 0; omega) hg.1 hn.1
    have hnx : nextD ⟨0, 0, 0, 0, 5, true⟩ (aroW x n g) = ⟨18, 0, 0, 0⟩ := by unfold nextD; rw [if_neg (by rw [hf]; simp)]; simp
    refine .begin hnx (fun b => ?_) rfl rfl ⟨ok, gn, ts, ?_, ?_, .inr (.inl ⟨rfl, ?_, hg.1, ?_, ?_, ?_, ?_, rfl, rfl, rfl⟩)⟩
    · rw [step_of hf hnx]; simp [stepW, trim, wrap64]
    · show (0 : Int) ≤ 0 + 1; omega
    · show (0 : Int) + 1 + (owe x.sc x.lt : Int) ≤ 0 + 1 + 4 * (x.l.length : Int); omega
    · show (0 : Int) ≤ 0; omega
    · show (0 : Int) + 1 = 1 + 0 + (cnt x.sc x.td : Int); omega
    · show (0 : Int) ≤ 0; omega
    · show (0 : Int) ≤ 2; omega
    · intro _; show (0 : Int) ≤ 1; omega
  · have hf : fitsB ⟨1, root, 0, 0, 6, false⟩ (aroW x n g) = true := fb _ (by simp [mayB, Cyc.bad, trim]; omega) hr0 hr1 hn.1
    by_cases hlt : root < g
    · have hnx : nextD ⟨1, root, 0, 0, 6, false⟩ (aroW x n g) = ⟨19, root, 0, 0⟩ := by unfold nextD; rw [if_neg (by rw [hf]; simp), if_neg (by simp), if_pos ⟨rfl, hlt⟩]
      refine .root hnx (fun b => ?_) (hl2 hlt) (by show 0 < steps; omega) ⟨ok.shade 1 (by omega), ?_, ts, ?_, ?_, .inr (.inl ⟨rfl, ?_, ?_, ?_, ?_, ?_, ?_, rfl, rfl, rfl⟩)⟩
      · rw [step_of hf hnx]; simp [stepW, trim, w1 root hr0 (by omega)]
      · simp only [shadeW]; omega
      · show 0 ≤ i + 1; omega
      · show i + 1 + (owe x.sc x.lt : Int) ≤ steps + 1 + 4 * (x.l.length : Int); omega
      · show 0 ≤ root + 1; omega
      · show root + 1 ≤ g; omega
      · show steps + 1 = 1 + (root + 1) + (cnt x.sc x.td : Int); omega
      · show (0 : Int) ≤ 1; omega
      · show (1 : Int) ≤ 2; omega
      · intro _; show (1 : Int) ≤ 1; omega
    · have hrg : root = g := by omega
      rcases arX_found x hs htd x.l.length 0 (by omega) with ⟨_, he⟩ | ⟨k, k1, k2, k3, hk, he⟩
      · exact scanRound _ (.inl rfl) hrg (by omega) (by omega) hl0 (by omega) rfl rfl rfl (fun _ => by show (arX x 0).1 = 0; rw [he])
      · have ht : (aroW x n g).thread = (k : Int) + 1 := by show (arX x 0).1 = _; rw [he]
        have hsti : (aroW x n g).still = x.l[k].still := by show (arX x 0).2.1 = _; rw [he]
        have htol : (aroW x n g).told = x.td[k] := by show (arX x 0).2.2 = _; rw [he]
        have hnx : nextD ⟨1, root, 0, 0, 6, false⟩ (aroW x n g) = threadD (aroW x n g) := by
          unfold nextD
          rw [if_neg (by rw [hf]; simp), if_neg (by simp), if_neg (by show ¬ ((1 : Int) = 1 ∧ root < g); omega), if_pos ⟨rfl, by rw [ht]; omega⟩]
        have k4 : k < x.lt.length := by omega
        by_cases hsk : x.l[k].still = true
        · have htk : x.td[k] = false := by
            cases hh : x.td[k] with
            | false => rfl
            | true => have := ts k k3 k1 hh; rw [hsk] at this; cases this
          have hnx2 : nextD ⟨1, root, 0, 0, 6, false⟩ (aroW x n g) = ⟨21, 0, (k : Int) + 1, 0⟩ := by rw [hnx, threadD, if_pos (by rw [hsti]; exact hsk), ht]
          have hcn := cnt_sc x.sc x.td k k2 k3 hk
          rw [htk] at hcn
          simp only [Bool.false_eq_true, if_false] at hcn
          have how := owe_sc x.sc x.lt k k2 k4 hk
          refine .still k k1 ht (by rw [hsti]; exact hsk) hnx2 (fun b => ?_) hl1 (by show 0 < steps; omega) ⟨WOk.shade ?_ _ (pick_pos _), ?_, ts, ?_, ?_, .inr (.inl ⟨rfl, hr0, hr1, ?_, ?_, ?_, ?_, rfl, rfl, rfl⟩)⟩
          · rw [step_of hf hnx2]; simp [stepW, trim]
          · obtain ⟨h1, h2, h3, h4, h5, h6, h7, h8, h9⟩ := ok
            exact ⟨by simpa using h1, h2, h3, h4, h5, h6, h7, h8, h9⟩
          · simp only [shadeW]; omega
          · show 0 ≤ i + 1; omega
          · show i + 1 + (owe (x.sc.set k true) x.lt : Int) ≤ steps + 1 + 4 * (x.l.length : Int); omega
          · show steps + 1 = 1 + root + (cnt (x.sc.set k true) x.td : Int); omega
          · show (0 : Int) ≤ 2; omega
          · show (2 : Int) ≤ 2; omega
          · intro h; exact absurd h hlt
        · have hsf : x.l[k].still = false := by simpa using hsk
          by_cases htk : x.td[k] = true
          · have hnx2 : nextD ⟨1, root, 0, 0, 6, false⟩ (aroW x n g) = ⟨0, 0, 0, 0⟩ := by rw [hnx, threadD, if_neg (by rw [hsti, hsf]; simp), if_pos (by rw [htol]; exact htk)]
            have hcn := cnt_sc x.sc x.td k k2 k3 hk
            rw [htk] at hcn
            simp only [if_true] at hcn
            have how := owe_sc x.sc x.lt k k2 k4 hk
            have how2 := owe_lt x.sc x.lt k k2 k4 hk
            have hlat : latW k x = x.lt[k] := by simp [latW, k4]
            have hb2 := ok.lat _ (List.getElem_mem k4)
            refine .told k k1 ht hnx2 (by simp [k3, htk]) ?_
            by_cases hlv : 0 < x.lt[k]
            · have hR : laysW k x = { x with lt := x.lt.set k (x.lt[k] - 1) } := by rw [laysW, hlat, if_pos hlv]
              rw [hR]
              refine ⟨?_, gn, ts, ?_, ?_, .inr (.inl ⟨rfl, hr0, hr1, hst, hl0, hl1, hl2, rfl, rfl, rfl⟩)⟩
              · obtain ⟨h1, h2, h3, h4, h5, h6, h7, h8, h9⟩ := ok
                refine ⟨h1, h2, by simpa using h3, h4, h5, h6, h7, ?_, h9⟩
                intro v hv
                rcases List.mem_or_eq_of_mem_set hv with hv | rfl
                · exact h8 v hv
                · omega
              · show 0 ≤ i + 1; omega
              · have := how2 hlv
                show i + 1 + (owe x.sc (x.lt.set k (x.lt[k] - 1)) : Int) ≤ steps + 4 * (x.l.length : Int); omega
            · have hR : laysW k x = shadeW (pickI (shdW k x) 5) { x with sc := x.sc.set k true } := by rw [laysW, hlat, if_neg hlv]
              rw [hR]
              refine ⟨WOk.shade ?_ _ (pick_pos _), ?_, ts, ?_, ?_, .inr (.inl ⟨rfl, hr0, hr1, ?_, hl0, hl1, hl2, rfl, rfl, rfl⟩)⟩
              · obtain ⟨h1, h2, h3, h4, h5, h6, h7, h8, h9⟩ := ok
                exact ⟨by simpa using h1, h2, h3, h4, h5, h6, h7, h8, h9⟩
              · simp only [shadeW]; omega
              · show 0 ≤ i + 1; omega
              · show i + 1 + (owe (x.sc.set k true) x.lt : Int) ≤ steps + 4 * (x.l.length : Int); omega
              · show steps = 1 + root + (cnt (x.sc.set k true) x.td : Int); omega
          · have htf : x.td[k] = false := by simpa using htk
            have hnx2 : nextD ⟨1, root, 0, 0, 6, false⟩ (aroW x n g) = ⟨20, 0, (k : Int) + 1, 0⟩ := by rw [hnx, threadD, if_neg (by rw [hsti, hsf]; simp), if_neg (by rw [htol, htf]; simp), ht]
            refine .ask k k1 ht (by rw [hsti]; exact hsf) hnx2 (by simp [k3, htf]) (fun b => ?_) hl1 (by show 0 < steps; omega) ?_
            · rw [step_of hf hnx2]; simp [stepW, trim]
            · by_cases hbo : bornB k x = true ∧ x.l.length < 8
              · have hR : bornW k x = { x with l := x.l.set k { lfW k x with born := false } ++ [⟨false, 0, false, shdW k x⟩], sc := x.sc ++ [false], td := x.td ++ [false], lt := x.lt ++ [0] } := by rw [bornW, if_pos hbo]
                rw [hR]
                have hlf : lfW k x = x.l[k] := by simp [lfW, k1]
                have hsh : shdW k x = x.l[k].shade := by simp [shdW, k1]
                have hset : (x.td ++ [false]).set k true = x.td.set k true ++ [false] := by rw [List.set_append_left _ _ k3]
                have hc2 : cnt (x.sc ++ [false]) ((x.td ++ [false]).set k true) = cnt x.sc x.td + 1 := by
                  rw [hset, cnt_app _ _ (by simp; omega), cnt_td x.sc x.td k k2 k3 hk htf]
                have ho2 := owe_app x.sc x.lt (by omega)
                refine ⟨?_, gn, ?_, ?_, ?_, .inr (.inl ⟨rfl, hr0, hr1, ?_, ?_, ?_, ?_, rfl, rfl, rfl⟩)⟩
                · obtain ⟨h1, h2, h3, h4, h5, h6, h7, h8, h9⟩ := ok
                  refine ⟨by simp; omega, by simp; omega, by simp; omega, by simp; omega, h5, h6, h7, ?_, ?_⟩
                  · intro v hv
                    rcases List.mem_append.1 hv with hv | hv
                    · exact h8 v hv
                    · simp at hv; omega
                  · intro v hv
                    rcases List.mem_append.1 hv with hv | hv
                    · rcases List.mem_or_eq_of_mem_set hv with hv | rfl
                      · exact h9 v hv
                      · show _ ≤ (lfW k x).shade ∧ (lfW k x).shade ≤ _
                        rw [hlf]; exact h9 _ (List.getElem_mem k1)
                    · simp only [List.mem_singleton] at hv
                      subst hv
                      show _ ≤ shdW k x ∧ shdW k x ≤ _
                      rw [hsh]; exact h9 _ (List.getElem_mem k1)
                · intro j h1 h2 hj
                  simp only [List.length_set, List.length_append, List.length_singleton] at h1 h2
                  by_cases hjl : j < x.l.length
                  · have e1 : (x.l.set k { lfW k x with born := false } ++ [(⟨false, 0, false, shdW k x⟩ : Lf)])[j]'(by simp; omega) = (x.l.set k { lfW k x with born := false })[j]'(by simp; omega) := List.getElem_append_left (by simp; omega)
                    show ((x.l.set k { lfW k x with born := false } ++ [(⟨false, 0, false, shdW k x⟩ : Lf)])[j]'(by simp; omega)).still = false
                    rw [e1, List.getElem_set]
                    split
                    · show (lfW k x).still = false; rw [hlf]; exact hsf
                    · rename_i hne
                      refine ts j (by omega) hjl ?_
                      have hj2 : ((x.td ++ [false]).set k true)[j]'(by simp; omega) = true := hj
                      rw [List.getElem_set, if_neg hne, List.getElem_append_left (by omega)] at hj2
                      exact hj2
                  · have : j = x.l.length := by omega
                    subst this
                    show ((x.l.set k { lfW k x with born := false } ++ [(⟨false, 0, false, shdW k x⟩ : Lf)])[x.l.length]'(by simp)).still = false
                    rw [List.getElem_append_right (by simp)]
                    simp
                · show 0 ≤ i + 1; omega
                · show i + 1 + (owe (x.sc ++ [false]) (x.lt ++ [0]) : Int) ≤ steps + 1 + 4 * ((x.l.set k { lfW k x with born := false } ++ [(⟨false, 0, false, shdW k x⟩ : Lf)]).length : Int)
                  simp only [List.length_append, List.length_set, List.length_singleton]; omega
                · show steps + 1 = 1 + root + (cnt (x.sc ++ [false]) ((x.td ++ [false]).set k true) : Int); omega
                · show (0 : Int) ≤ 2; omega
                · show (2 : Int) ≤ 2; omega
                · intro h; exact absurd h hlt
              · have hR : bornW k x = x := by rw [bornW, if_neg hbo]
                rw [hR]
                have hc2 := cnt_td x.sc x.td k k2 k3 hk htf
                refine ⟨?_, gn, ?_, ?_, ?_, .inr (.inl ⟨rfl, hr0, hr1, ?_, ?_, ?_, ?_, rfl, rfl, rfl⟩)⟩
                · obtain ⟨h1, h2, h3, h4, h5, h6, h7, h8, h9⟩ := ok
                  exact ⟨h1, by simpa using h2, h3, h4, h5, h6, h7, h8, h9⟩
                · intro j h1 h2 hj
                  simp only [List.length_set] at h1
                  have hj2 : (x.td.set k true)[j]'(by simp; omega) = true := hj
                  rw [List.getElem_set] at hj2
                  by_cases hjk : k = j
                  · subst hjk; exact hsf
                  · rw [if_neg hjk] at hj2; exact ts j (by omega) h2 hj2
                · show 0 ≤ i + 1; omega
                · show i + 1 + (owe x.sc x.lt : Int) ≤ steps + 1 + 4 * (x.l.length : Int); omega
                · show steps + 1 = 1 + root + (cnt x.sc (x.td.set k true) : Int); omega
                · show (0 : Int) ≤ 2; omega
                · show (2 : Int) ≤ 2; omega
                · intro h; exact absurd h hlt
  · exact scanRound _ (.inr rfl) hr h1 h2 h3 h4 h5 h6 h7 (fun h => by simp at h)
  · have hf : fitsB ⟨3, 0, swept, freed, 6, false⟩ (aroW x n g) = true := fb _ (by simp [mayB, Cyc.bad, trim]; omega) (by show (0 : Int) ≤ 0; omega) hg.1 h9
    by_cases hlt : swept < n
    · have hnx : nextD ⟨3, 0, swept, freed, 6, false⟩ (aroW x n g) = ⟨24, 0, 0, swept⟩ := by
        unfold nextD
        rw [if_neg (by rw [hf]; simp), if_neg (by simp), if_neg (by simp), if_neg (by simp), if_neg (by simp)]
        exact if_pos hlt
      refine .sweep hnx (fun b => ?_) h4 (by show 0 < steps; omega) (fun b => ⟨ok, gn, ts, ?_, ?_, .inr (.inr (.inr ⟨rfl, hr, ?_, ?_, ?_, ?_, h5, ?_, ?_, ?_⟩))⟩)
      · rw [step_of hf hnx]
        simp only [stepW, trim, w1 swept (by omega) (by omega), w1 freed (by omega) (by omega)]
        simp
      · show 0 ≤ i + 1; omega
      · show i + 1 + (owe x.sc x.lt : Int) ≤ steps + 1 + 4 * (x.l.length : Int); omega
      · show 1 ≤ steps + 1; omega
      · show steps + 1 ≤ 2 + g + (x.l.length : Int) + n + (swept + 1); omega
      · show (0 : Int) ≤ 5; omega
      · show (5 : Int) ≤ 5; omega
      · show 0 ≤ (if b = true then freed + 1 else freed); split <;> omega
      · show (if b = true then freed + 1 else freed) ≤ swept + 1; split <;> omega
      · show swept + 1 ≤ n; omega
    · have hnx : nextD ⟨3, 0, swept, freed, 6, false⟩ (aroW x n g) = ⟨25, 0, 0, 0⟩ := by
        unfold nextD
        rw [if_neg (by rw [hf]; simp), if_neg (by simp), if_neg (by simp), if_neg (by simp), if_neg (by simp)]
        exact if_neg hlt
      refine .finish hnx rfl (fun b => ?_) (by show last ≤ 6; omega) (by show 0 < steps; omega) (by show steps + 1 ≤ 2 * n + g + (x.l.length : Int) + 3; omega) h5 hr (by show swept = n; omega)
      rw [step_of hf hnx]; simp [stepW, trim]
theorem Inv.start (n : Int) (hn : 0 ≤ n ∧ n < 300) (g : Int) (ls : List Lf) (h8 : ls.length ≤ 8) (hi : ∀ l ∈ ls, -9223372036854775808 ≤ l.shade ∧ l.shade ≤ 9223372036854775807) : Inv n g ⟨madeW n ls, ⟨0, 0, 0, 0, 5, true⟩, 0, 0, 0, 0, 0, 0, 0⟩ := by
  have hc : ∀ l : List Lf, cnt (l.map fun _ => false) (l.map fun _ => false) = 0 := by
    intro l
    induction l with
    | nil => rfl
    | cons a l ih => simp only [List.map_cons, cnt, ih]; simp
  have hlat : ∀ v ∈ (madeW n ls).lt, 0 ≤ v ∧ v ≤ 3 := by
    intro v hv
    simp only [madeW, List.mem_map] at hv
    obtain ⟨l, _, rfl⟩ := hv
    have := pickI_lt l.late 4 (by omega)
    omega
  have ho := owe_le (madeW n ls).sc (madeW n ls).lt (fun v hv => (hlat v hv).2)
  refine ⟨⟨by simp [madeW], by simp [madeW], by simp [madeW], h8, Int.le_refl _, hn.1, by show 0 + n ≤ 300; omega, hlat, hi⟩, by show 0 + n ≤ n; omega, ?_, Int.le_refl _, ?_, .inl ⟨rfl, rfl, rfl, rfl, rfl, rfl, rfl, rfl, hc ls⟩⟩
  · intro k h1 h2 hk
    simp [madeW] at hk
  · show (0 : Int) + (owe (madeW n ls).sc (madeW n ls).lt : Int) ≤ 0 + 4 * ((madeW n ls).l.length : Int)
    have e : (madeW n ls).sc.length = (madeW n ls).l.length := by simp [madeW]
    omega
end Go.Proofs.Ytgfabhioliljmaa
