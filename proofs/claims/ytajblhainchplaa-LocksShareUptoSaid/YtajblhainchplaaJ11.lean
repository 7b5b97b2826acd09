/- Layer 19: the walk of awake. -/
import Derived.Test.YtajblhainchplaaJ10
set_option linter.unusedVariables false
set_option linter.unusedSimpArgs false
namespace Go.Proofs.Ytajblhainchplaa
open Go.RowKit Go.Proofs.YtajblhainchplaaW.PrintWords Go.Proofs.YtajblhainchplaaW.PrintLast
def lkW : Lk := ⟨0, ⟨#[97]⟩, ⟨#[98]⟩, true⟩
def lkR : Lk := ⟨0, ⟨#[97]⟩, ⟨#[99]⟩, false⟩
def pW : Plc := ⟨3, [lkW]⟩
def pR : Plc := ⟨5, [lkR]⟩
theorem aw1 : decide (Meet lkW lkR) = true := by kernel_rfl
theorem aw2 : decide (Meet lkR lkR) = false := by kernel_rfl
theorem aw3 : decide (RightL lkW) = true := by kernel_rfl
theorem aw3' : decide (RightL lkR) = true := by kernel_rfl
theorem aw4 : t0.ask 3 [lkW] = (0, ⟨[pW], 3⟩) := ask_ok (by show ¬ (3 : Int) ≤ -1; decide) (by rintro ⟨x, hx, h⟩; rw [List.mem_singleton.1 hx] at h; exact h (of_decide_eq_true aw3))
theorem aw5 : (TS.mk [pW] 3).ask 5 [lkR] = (0, ⟨[pW, pR], 5⟩) := ask_ok (by show ¬ (5 : Int) ≤ 3; decide) (by rintro ⟨x, hx, h⟩; rw [List.mem_singleton.1 hx] at h; exact h (of_decide_eq_true aw3'))
theorem aw6 : (TS.mk [pW, pR] 5).ask 4 [] = (1, ⟨[pW, pR], 5⟩) := ask_no1 (by show (4 : Int) ≤ 5; decide)
theorem aw7 : (TS.mk [pW, pR] 5).ready = [3] := by kernel_rfl
theorem aw8 : (TS.mk [pW, pR] 5).waits 5 = ([3], 0) := by kernel_rfl
theorem aw9 : (TS.mk [pW, pR] 5).release 5 = (1, ⟨[pW, pR], 5⟩) := release_kept (k := 1) (by kernel_rfl) (of_decide_eq_true (by kernel_rfl))
theorem cell_mod {w w' : World} {S : Nat → Prop} {a : Addr} {v : Value} (k : Mod w w' S) (hc : w.cell? a = some v) (hn : ¬ S a.block) : w'.cell? a = some v := by
  have hl := World.block_lt_of_cell? w a hc
  unfold World.cell? at hc ⊢
  rw [k.block _ hl hn]
  exact hc
theorem row1 {w : World} {base : Nat} {ok : Nat → Prop} {v : Value} {x : Int} (h : (Kd.int .i64).R 3 w base ok v [x]) :
    ∃ g c, v = .slice (some ⟨g, 0, none⟩) 1 c ∧ w.cell? ⟨g, 0, none⟩ = some (.int .i64 x) ∧ base ≤ g ∧ ok g ∧ g < w.heap.size := by
  obtain ⟨V, vc, rfl⟩ := Kd.R_slice h
  obtain ⟨g, cap, hv, _, _, _⟩ := Kd.R_form h (by simp)
  have hb := Kd.R_bound h
  have hg := hb.1 g (by rw [hv]; simp [Value.ownBlock])
  obtain ⟨rfl, rfl⟩ : V = some ⟨g, 0, none⟩ ∧ vc = cap := by injection hv with h1 h2 h3; exact ⟨h1, h3⟩
  obtain ⟨ad, hA, hcell⟩ := int_at (Kd.R_reads' h).2.2 0 (by simp)
  injection hA with hA
  subst hA
  exact ⟨g, vc, rfl, hcell, hg.2.1, hg.1, hg.2.2.1⟩
set_option maxRecDepth 100000 in
set_option maxHeartbeats 4000000 in
theorem awake_any (w : World) : Calls Try.prog 7 #[] w fun e w' => e = .returned (.bool true) ∧ Below w.heap.size w w' := by
  obtain ⟨b1, hb1⟩ : ∃ b, b = w.heap.size := ⟨_, rfl⟩
  obtain ⟨W1, h1, k1, s1, B1⟩ := grow (W := w) hb1.symm #[.int .i64 lkW.table, .string lkW.lo, .string lkW.hi, .bool lkW.write] 23
  obtain ⟨b2, hb2⟩ : ∃ b, b = W1.heap.size := ⟨_, rfl⟩
  obtain ⟨W2, h2, k2, s2, B2⟩ := grow (W := W1) hb2.symm #[.int .i64 lkR.table, .string lkR.lo, .string lkR.hi, .bool lkR.write] 23
  have K1 := Aside0.mk (blk_below k1 B2)
  have K2 := Aside0.mk k2
  have BW2 := Aside0.mk (below_then B1 B1.size B2)
  have H1 := Lib.hid h1
  have H2 := Lib.hid h2
  have HB1 := Lib.hid hb1
  have HB2 := Lib.hid hb2
  clear h1 h2 k1 k2 s1 s2 B1 B2 hb1 hb2
  go_enter Try.func7, Try.ntmps7
  go_upto_region 2 with (fail)
  rw [show w.alloc (Obj.cells #[.int .i64 0, .string ⟨#[97]⟩, .string ⟨#[98]⟩, .bool true] 23) = W1 from H1.out.symm, ← HB1.out]
  go_upto_region 3 with (fail)
  rw [show W1.alloc (Obj.cells #[.int .i64 0, .string ⟨#[97]⟩, .string ⟨#[99]⟩, .bool false] 23) = W2 from H2.out.symm, ← HB2.out]
  have z0 : W2.cell? ⟨b1, 0, none⟩ = some (.int .i64 lkW.table) := blk_cell K1.out 0
  have z1 : W2.cell? ⟨b1, 1, none⟩ = some (.string lkW.lo) := blk_cell K1.out 1
  have z2 : W2.cell? ⟨b1, 2, none⟩ = some (.string lkW.hi) := blk_cell K1.out 2
  have z3 : W2.cell? ⟨b1, 3, none⟩ = some (.bool lkW.write) := blk_cell K1.out 3
  have y0 : W2.cell? ⟨b2, 0, none⟩ = some (.int .i64 lkR.table) := blk_cell K2.out 0
  have y1 : W2.cell? ⟨b2, 1, none⟩ = some (.string lkR.lo) := blk_cell K2.out 1
  have y2 : W2.cell? ⟨b2, 2, none⟩ = some (.string lkR.hi) := blk_cell K2.out 2
  have y3 : W2.cell? ⟨b2, 3, none⟩ = some (.bool lkR.write) := blk_cell K2.out 3
  go_wp2_with fail
  refine (conflict_any lkW lkR W2).mono ?_
  rintro e wa0 ⟨he, hb⟩
  rw [aw1] at he
  subst he
  replace K1 := Aside0.mk (blk_below K1.out hb)
  replace K2 := Aside0.mk (blk_below K2.out hb)
  have Bwa0 := Aside0.mk (below_then BW2.out BW2.out.size hb)
  clear hb z0 z1 z2 z3 y0 y1 y2 y3
  have z0 : wa0.cell? ⟨b1, 0, none⟩ = some (.int .i64 lkW.table) := blk_cell K1.out 0
  have z1 : wa0.cell? ⟨b1, 1, none⟩ = some (.string lkW.lo) := blk_cell K1.out 1
  have z2 : wa0.cell? ⟨b1, 2, none⟩ = some (.string lkW.hi) := blk_cell K1.out 2
  have z3 : wa0.cell? ⟨b1, 3, none⟩ = some (.bool lkW.write) := blk_cell K1.out 3
  have y0 : wa0.cell? ⟨b2, 0, none⟩ = some (.int .i64 lkR.table) := blk_cell K2.out 0
  have y1 : wa0.cell? ⟨b2, 1, none⟩ = some (.string lkR.lo) := blk_cell K2.out 1
  have y2 : wa0.cell? ⟨b2, 2, none⟩ = some (.string lkR.hi) := blk_cell K2.out 2
  have y3 : wa0.cell? ⟨b2, 3, none⟩ = some (.bool lkR.write) := blk_cell K2.out 3
  go_wp2_with fail
  refine (conflict_any lkR lkR wa0).mono ?_
  rintro e wa1 ⟨he, hb⟩
  rw [aw2] at he
  subst he
  replace K1 := Aside0.mk (blk_below K1.out hb)
  replace K2 := Aside0.mk (blk_below K2.out hb)
  have Bwa1 := Aside0.mk (below_then Bwa0.out Bwa0.out.size hb)
  clear hb z0 z1 z2 z3 y0 y1 y2 y3
  have z0 : wa1.cell? ⟨b1, 0, none⟩ = some (.int .i64 lkW.table) := blk_cell K1.out 0
  have z1 : wa1.cell? ⟨b1, 1, none⟩ = some (.string lkW.lo) := blk_cell K1.out 1
  have z2 : wa1.cell? ⟨b1, 2, none⟩ = some (.string lkW.hi) := blk_cell K1.out 2
  have z3 : wa1.cell? ⟨b1, 3, none⟩ = some (.bool lkW.write) := blk_cell K1.out 3
  have y0 : wa1.cell? ⟨b2, 0, none⟩ = some (.int .i64 lkR.table) := blk_cell K2.out 0
  have y1 : wa1.cell? ⟨b2, 1, none⟩ = some (.string lkR.lo) := blk_cell K2.out 1
  have y2 : wa1.cell? ⟨b2, 2, none⟩ = some (.string lkR.hi) := blk_cell K2.out 2
  have y3 : wa1.cell? ⟨b2, 3, none⟩ = some (.bool lkR.write) := blk_cell K2.out 3
  go_wp2_with fail
  refine (right_any lkW wa1).mono ?_
  rintro e wa2 ⟨he, hb⟩
  rw [aw3] at he
  subst he
  replace K1 := Aside0.mk (blk_below K1.out hb)
  replace K2 := Aside0.mk (blk_below K2.out hb)
  have Bwa2 := Aside0.mk (below_then Bwa1.out Bwa1.out.size hb)
  clear hb z0 z1 z2 z3 y0 y1 y2 y3
  have z0 : wa2.cell? ⟨b1, 0, none⟩ = some (.int .i64 lkW.table) := blk_cell K1.out 0
  have z1 : wa2.cell? ⟨b1, 1, none⟩ = some (.string lkW.lo) := blk_cell K1.out 1
  have z2 : wa2.cell? ⟨b1, 2, none⟩ = some (.string lkW.hi) := blk_cell K1.out 2
  have z3 : wa2.cell? ⟨b1, 3, none⟩ = some (.bool lkW.write) := blk_cell K1.out 3
  have y0 : wa2.cell? ⟨b2, 0, none⟩ = some (.int .i64 lkR.table) := blk_cell K2.out 0
  have y1 : wa2.cell? ⟨b2, 1, none⟩ = some (.string lkR.lo) := blk_cell K2.out 1
  have y2 : wa2.cell? ⟨b2, 2, none⟩ = some (.string lkR.hi) := blk_cell K2.out 2
  have y3 : wa2.cell? ⟨b2, 3, none⟩ = some (.bool lkR.write) := blk_cell K2.out 3
  go_wp2_with fail
  refine (new_any wa2).mono ?_
  rintro e w1 ⟨rfl, hp1, hs1, hb1⟩
  obtain ⟨p, hp⟩ : ∃ q, q = wa2.heap.size := ⟨_, rfl⟩
  obtain ⟨base, hbase⟩ : ∃ b, b = w1.heap.size := ⟨_, rfl⟩
  rw [← hp] at hp1 hs1 ⊢
  have N1 := Aside0.mk (TNet.start (base := base) (ok := fun q => base ≤ q) hp1 (by omega) (by omega))
  have HB1p := Lib.hid (show b1 < p from by rw [hp]; exact blk_lt K1.out)
  have HB2p := Lib.hid (show b2 < p from by rw [hp]; exact blk_lt K2.out)
  replace K1 := Aside0.mk (blk_below K1.out hb1)
  replace K2 := Aside0.mk (blk_below K2.out hb1)
  have B1 := Aside0.mk (below_then Bwa2.out Bwa2.out.size hb1)
  have HP := Lib.hid hp
  have HPW := Lib.hid (show w.heap.size ≤ p from by rw [hp]; exact Bwa2.out.size)
  have HBASE := Lib.hid hbase
  have HPB := Lib.hid (show p < base from by omega)
  clear hp1 hs1 hb1 hp hbase z0 z1 z2 z3 y0 y1 y2 y3
  have z0 : w1.cell? ⟨b1, 0, none⟩ = some (.int .i64 lkW.table) := blk_cell K1.out 0
  have z1 : w1.cell? ⟨b1, 1, none⟩ = some (.string lkW.lo) := blk_cell K1.out 1
  have z2 : w1.cell? ⟨b1, 2, none⟩ = some (.string lkW.hi) := blk_cell K1.out 2
  have z3 : w1.cell? ⟨b1, 3, none⟩ = some (.bool lkW.write) := blk_cell K1.out 3
  have y0 : w1.cell? ⟨b2, 0, none⟩ = some (.int .i64 lkR.table) := blk_cell K2.out 0
  have y1 : w1.cell? ⟨b2, 1, none⟩ = some (.string lkR.lo) := blk_cell K2.out 1
  have y2 : w1.cell? ⟨b2, 2, none⟩ = some (.string lkR.hi) := blk_cell K2.out 2
  have y3 : w1.cell? ⟨b2, 3, none⟩ = some (.bool lkR.write) := blk_cell K2.out 3
  obtain ⟨q1, hq1⟩ : ∃ q, q = w1.heap.size := ⟨_, rfl⟩
  obtain ⟨V1, h1, k1, s1, b1'⟩ := grow (W := w1) hq1.symm #[.int .i64 lkW.table, .string lkW.lo, .string lkW.hi, .bool lkW.write] 23
  have NV1 := Aside0.mk (N1.out.below b1')
  have CV1 : Aside0 (kLk.C V1 (some ⟨q1, 0, none⟩) [lkW].length [lkW]) := ⟨C_block (d := kLk) k1 (by simp) (reps1 rfl (kLk_K.2 rfl))⟩
  have MV1 := Aside0.mk ((Mod.refl (S := fun k => k = p ∨ base ≤ k) w1).trans (Mod.of_below b1'))
  have hle1 : base ≤ V1.heap.size := Nat.le_trans (Nat.le_of_eq HBASE.out) b1'.size
  have HV1 := Lib.hid h1
  have HQ1 := Lib.hid hq1
  clear h1 k1 s1 b1' hq1
  go_wp2_with fail
  rw [← HV1.out, ← HQ1.out]
  refine (ask_any t0 none 0 base p (fun q => base ≤ q) 3 [lkW] (some ⟨q1, 0, none⟩) 1 V1 NV1.out hle1 (fun k hk => Nat.le_trans hle1 hk) CV1.out (by simp) (by decide)).mono ?_
  rintro e x1 ⟨he, ⟨A1, c1, hN⟩, hm⟩
  rw [aw4] at he hN
  dsimp only at he hN
  subst he
  have X1 := Aside0.mk hN
  have MX1 := Aside0.mk (MV1.out.trans hm)
  have hlx1 : base ≤ x1.heap.size := Nat.le_trans hle1 hm.size
  clear hN hm
  replace K1 := Aside0.mk (blk_mod K1.out (MX1.out) (fun h => h.elim (fun h => by have := HB1p.out; omega) (fun h => by have := HB1p.out; have := HPB.out; omega)))
  replace K2 := Aside0.mk (blk_mod K2.out (MX1.out) (fun h => h.elim (fun h => by have := HB2p.out; omega) (fun h => by have := HB2p.out; have := HPB.out; omega)))
  clear z0 z1 z2 z3 y0 y1 y2 y3
  have z0 : x1.cell? ⟨b1, 0, none⟩ = some (.int .i64 lkW.table) := blk_cell K1.out 0
  have z1 : x1.cell? ⟨b1, 1, none⟩ = some (.string lkW.lo) := blk_cell K1.out 1
  have z2 : x1.cell? ⟨b1, 2, none⟩ = some (.string lkW.hi) := blk_cell K1.out 2
  have z3 : x1.cell? ⟨b1, 3, none⟩ = some (.bool lkW.write) := blk_cell K1.out 3
  have y0 : x1.cell? ⟨b2, 0, none⟩ = some (.int .i64 lkR.table) := blk_cell K2.out 0
  have y1 : x1.cell? ⟨b2, 1, none⟩ = some (.string lkR.lo) := blk_cell K2.out 1
  have y2 : x1.cell? ⟨b2, 2, none⟩ = some (.string lkR.hi) := blk_cell K2.out 2
  have y3 : x1.cell? ⟨b2, 3, none⟩ = some (.bool lkR.write) := blk_cell K2.out 3
  obtain ⟨q2, hq2⟩ : ∃ q, q = x1.heap.size := ⟨_, rfl⟩
  obtain ⟨V2, h2, k2, s2, b2'⟩ := grow (W := x1) hq2.symm #[.int .i64 lkR.table, .string lkR.lo, .string lkR.hi, .bool lkR.write] 23
  have NV2 := Aside0.mk (X1.out.below b2')
  have CV2 : Aside0 (kLk.C V2 (some ⟨q2, 0, none⟩) [lkR].length [lkR]) := ⟨C_block (d := kLk) k2 (by simp) (reps1 rfl (kLk_K.2 rfl))⟩
  have MV2 := Aside0.mk ((Mod.refl (S := fun k => k = p ∨ base ≤ k) x1).trans (Mod.of_below b2'))
  have hle2 : base ≤ V2.heap.size := Nat.le_trans hlx1 b2'.size
  have HV2 := Lib.hid h2
  have HQ2 := Lib.hid hq2
  clear h2 k2 s2 b2' hq2
  go_wp2_with fail
  rw [← HV2.out, ← HQ2.out]
  refine (ask_any ⟨[pW], 3⟩ A1 c1 base p (fun q => base ≤ q) 5 [lkR] (some ⟨q2, 0, none⟩) 1 V2 NV2.out hle2 (fun k hk => Nat.le_trans hle2 hk) CV2.out (by simp) (by decide)).mono ?_
  rintro e x2 ⟨he, ⟨A2, c2, hN⟩, hm⟩
  rw [aw5] at he hN
  dsimp only at he hN
  subst he
  have X2 := Aside0.mk hN
  have MX2 := Aside0.mk (MV2.out.trans hm)
  have hlx2 : base ≤ x2.heap.size := Nat.le_trans hle2 hm.size
  clear hN hm
  replace K1 := Aside0.mk (blk_mod K1.out (MX2.out) (fun h => h.elim (fun h => by have := HB1p.out; omega) (fun h => by have := HB1p.out; have := HPB.out; omega)))
  replace K2 := Aside0.mk (blk_mod K2.out (MX2.out) (fun h => h.elim (fun h => by have := HB2p.out; omega) (fun h => by have := HB2p.out; have := HPB.out; omega)))
  clear z0 z1 z2 z3 y0 y1 y2 y3
  have z0 : x2.cell? ⟨b1, 0, none⟩ = some (.int .i64 lkW.table) := blk_cell K1.out 0
  have z1 : x2.cell? ⟨b1, 1, none⟩ = some (.string lkW.lo) := blk_cell K1.out 1
  have z2 : x2.cell? ⟨b1, 2, none⟩ = some (.string lkW.hi) := blk_cell K1.out 2
  have z3 : x2.cell? ⟨b1, 3, none⟩ = some (.bool lkW.write) := blk_cell K1.out 3
  have y0 : x2.cell? ⟨b2, 0, none⟩ = some (.int .i64 lkR.table) := blk_cell K2.out 0
  have y1 : x2.cell? ⟨b2, 1, none⟩ = some (.string lkR.lo) := blk_cell K2.out 1
  have y2 : x2.cell? ⟨b2, 2, none⟩ = some (.string lkR.hi) := blk_cell K2.out 2
  have y3 : x2.cell? ⟨b2, 3, none⟩ = some (.bool lkR.write) := blk_cell K2.out 3
  go_wp2_with fail
  refine (ask_any ⟨[pW, pR], 5⟩ A2 c2 base p (fun q => base ≤ q) 4 [] none 0 x2 X2.out hlx2 (fun k hk => Nat.le_trans hlx2 hk) (Kd.C_nil _ _) (by decide) (by show (2 + 1) * 32 ≤ _; decide)).mono ?_
  rintro e x3 ⟨he, ⟨A3, c3, hN⟩, hm⟩
  rw [aw6] at he hN
  dsimp only at he hN
  subst he
  have X3 := Aside0.mk hN.bound
  have MX3 := Aside0.mk ((MX1.out.trans MX2.out).trans hm)
  have hlx3 : base ≤ x3.heap.size := Nat.le_trans hlx2 hm.size
  clear hN hm z0 z1 z2 z3 y0 y1 y2 y3
  go_wp2_with fail
  refine (ready_any ⟨[pW, pR], 5⟩ A3 c3 base p _ x3 X3.out (by decide)).mono ?_
  rintro e x4 ⟨v4, rfl, hv4, hb4⟩
  rw [aw7] at hv4
  obtain ⟨g4, cc4, rfl, hg4, hge4, _, hgl4⟩ := row1 hv4
  have X4 := Aside0.mk (X3.out.below hb4)
  have MX4 := Aside0.mk (MX3.out.trans (Mod.of_below hb4))
  have HG4 := Lib.hid hge4
  have HL4 := Lib.hid hb4.size
  clear hv4 hb4 hge4
  go_wp2_with fail
  refine (waits_any ⟨[pW, pR], 5⟩ A3 c3 base p _ 5 x4 X4.out (by decide)).mono ?_
  rintro e x5 ⟨v5, he, hv5, hb5⟩
  rw [aw8] at he hv5
  dsimp only at he hv5
  obtain ⟨g5, cc5, rfl, hg5, hge5, _, _⟩ := row1 hv5
  subst he
  have X5 := Aside0.mk (X4.out.below hb5)
  have MX5 := Aside0.mk (MX4.out.trans (Mod.of_below hb5))
  have G4 := Lib.hid (pw_cell_below hb5 hg4)
  have G5 := Lib.hid hg5
  have HG5 := Lib.hid (Nat.le_trans HL4.out hge5)
  have HL5 := Lib.hid (Nat.le_trans HL4.out hb5.size)
  have hle5 : base ≤ x5.heap.size := Nat.le_trans hlx3 HL5.out
  clear hv5 hb5 hge5 hg4 hg5 hgl4
  go_wp2_with fail
  refine (release_any ⟨[pW, pR], 5⟩ A3 c3 base p _ 5 x5 X5.out hle5 (by decide)).mono ?_
  rintro e x6 ⟨he, ⟨A6, c6, hN⟩, hm⟩
  rw [aw9] at he
  dsimp only at he
  subst he
  have r4 : x6.cell? ⟨g4, 0, none⟩ = some (.int .i64 3) := cell_mod hm G4.out (by show ¬ (g4 = p ∨ (base ≤ g4 ∧ base ≤ g4 ∧ g4 < x3.heap.size)); have := HG4.out; have := HL4.out; have := HPB.out; have := hlx3; omega)
  have r5 : x6.cell? ⟨g5, 0, none⟩ = some (.int .i64 3) := cell_mod hm G5.out (by show ¬ (g5 = p ∨ (base ≤ g5 ∧ base ≤ g5 ∧ g5 < x3.heap.size)); have := HG5.out; have := HL4.out; have := HPB.out; have := hlx3; omega)
  have M6 := Aside0.mk (MX5.out.trans (hm.mono (S' := fun k => k = p ∨ base ≤ k) (fun q h => h.imp (fun h => h) (fun h => h.1))))
  have p0 : (0 : Int) < 1 := by decide
  clear hN hm
  go_wp2_with fail
  go_ret
  exact ⟨rfl, Mod.below B1.out M6.out B1.out.size (fun i hi => by have := HPW.out; have := HPB.out; omega)⟩
end Go.Proofs.Ytajblhainchplaa
