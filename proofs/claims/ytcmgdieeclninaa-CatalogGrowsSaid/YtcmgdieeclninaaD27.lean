/- Layer 8: the walks of the reference's AddTable, AddProc. -/
import Derived.Test.YtcmgdieeclninaaD26
set_option linter.unusedVariables false
set_option linter.unusedSimpArgs false
namespace Go.Proofs.Ytcmgdieeclninaa
open Go.RowKit Go.Proofs.YtcmgdieeclninaaW.PrintWords Go.Proofs.YtcmgdieeclninaaW.PrintLast
set_option maxRecDepth 100000 in
set_option maxHeartbeats 8000000 in
theorem addTabRef_any (c : Cat) (A1 : Option Addr) (c1 : Nat) (A2 : Option Addr) (c2 : Nat) (t : Tab) (A3 : Option Addr) (d3 : Nat) (A4 : Option Addr) (d4 : Nat) (A5 : Option Addr) (d5 : Nat) (w : World)
    (hC1 : kTab.C w A1 c.tables.length c.tables) (hC2 : kPrc.C w A2 c.procs.length c.procs) (hz : SzCat c) (hX1 : kCol.C w A3 t.cols.length t.cols) (hX2 : (Kd.int .i64).C w A4 t.key.length t.key) (hX3 : kIdx.C w A5 t.idx.length t.idx) (hzt : SzTab t) (hbd : BdCat c) (hbt : BdTab t) :
    Calls Try.prog 16 #[.agg #[.slice A1 c.tables.length c1, .slice A2 c.procs.length c2], .agg #[.string t.name, .slice A3 t.cols.length d3, .slice A4 t.key.length d4, .int .i64 t.part, .slice A5 t.idx.length d5]] w (CatOut (addTab c t) w) := by
  have HC1 := Aside0.mk hC1
  have HC2 := Aside0.mk hC2
  have HZ := Lib.hid hz
  have HZT := Lib.hid hzt
  have HBD := Lib.hid hbd
  have HBT := Lib.hid hbt
  have hz1 := hz.1
  have hz2 := hz.2.1
  have HX1 := Aside0.mk hX1
  have HX2 := Aside0.mk hX2
  have HX3 := Aside0.mk hX3
  clear hC1 hC2 hz hzt hbd hbt hX1 hX2 hX3
  have hst := St3.start w (catBox c.tables.length c.procs.length A1 c1 A2 c2) (tabBox t A3 d3 A4 d4 A5 d5) zCat
  have hw0 : ((w.alloc (Obj.cells #[.slice A1 c.tables.length c1, .slice A2 c.procs.length c2] 25)).alloc (Obj.cells #[.string t.name, .slice A3 t.cols.length d3, .slice A4 t.key.length d4, .int .i64 t.part, .slice A5 t.idx.length d5] 30)).alloc (Obj.cells #[.slice none 0 0, .slice none 0 0] 25) = ((w.alloc (catBox c.tables.length c.procs.length A1 c1 A2 c2)).alloc (tabBox t A3 d3 A4 d4 A5 d5)).alloc zCat := rfl
  obtain ⟨W, hW⟩ : ∃ W, W = ((w.alloc (catBox c.tables.length c.procs.length A1 c1 A2 c2)).alloc (tabBox t A3 d3 A4 d4 A5 d5)).alloc zCat := ⟨_, rfl⟩
  rw [← hW] at hst hw0
  have HW0 := Aside0.mk hw0
  have S0 := Aside0.mk hst
  clear hW hw0 hst
  go_enter Try.func16, Try.ntmps16
  have f0 : W.cell? ⟨w.heap.size, 0, none⟩ = some (.slice A1 c.tables.length c1) := blk_cell S0.out.b1 0
  have f1 : W.cell? ⟨w.heap.size, 1, none⟩ = some (.slice A2 c.procs.length c2) := blk_cell S0.out.b1 1
  go_wp2_with fail
  rw [HW0.out]
  refine (rightRef_any c A1 c1 A2 c2 W (Kd.C_below HC1.out S0.out.bel) (Kd.C_below HC2.out S0.out.bel) HBD.out).mono ?_
  rintro e u1 ⟨rfl, hb1⟩
  have S1 := Aside0.mk (S0.out.below hb1)
  clear hb1 f0 f1
  have g0 : u1.cell? ⟨w.heap.size + 1, 0, none⟩ = some (.string t.name) := blk_cell S1.out.b2 0
  have g1 : u1.cell? ⟨w.heap.size + 1, 1, none⟩ = some (.slice A3 t.cols.length d3) := blk_cell S1.out.b2 1
  have g2 : u1.cell? ⟨w.heap.size + 1, 2, none⟩ = some (.slice A4 t.key.length d4) := blk_cell S1.out.b2 2
  have g3 : u1.cell? ⟨w.heap.size + 1, 3, none⟩ = some (.int .i64 t.part) := blk_cell S1.out.b2 3
  have g4 : u1.cell? ⟨w.heap.size + 1, 4, none⟩ = some (.slice A5 t.idx.length d5) := blk_cell S1.out.b2 4
  obtain ⟨b1, hb1⟩ : ∃ b, b = decide (RightCat c) := ⟨_, rfl⟩
  rw [← hb1]
  have HB1 := Lib.hid hb1
  clear hb1
  go_wp2_with fail
  refine (mayTabRef_any t A3 d3 A4 d4 A5 d5 u1 (Kd.C_below HX1.out S1.out.bel) (Kd.C_below HX2.out S1.out.bel) (Kd.C_below HX3.out S1.out.bel) HBT.out).mono ?_
  rintro e u2 ⟨rfl, hb2⟩
  have S2 := Aside0.mk (S1.out.below hb2)
  clear hb2 g0 g1 g2 g3 g4
  by_cases hR : RightCat c
  · obtain rfl : b1 = true := by rw [HB1.out]; exact decide_eq_true hR
    have HR := Lib.hid hR
    clear hR
    by_cases hM : MayTab t
    · rw [decide_eq_true hM]
      have HM := Lib.hid hM
      clear hM
      have f0 : u2.cell? ⟨w.heap.size, 0, none⟩ = some (.slice A1 c.tables.length c1) := blk_cell S2.out.b1 0
      have f1 : u2.cell? ⟨w.heap.size, 1, none⟩ = some (.slice A2 c.procs.length c2) := blk_cell S2.out.b1 1
      have g0 : u2.cell? ⟨w.heap.size + 1, 0, none⟩ = some (.string t.name) := blk_cell S2.out.b2 0
      go_wp2_with fail
      refine (posTable_any A1 c.tables.length c1 A2 c.procs.length c2 c.tables t.name u2 (Kd.C_below HC1.out S2.out.bel)).mono ?_
      rintro e u3 ⟨rfl, hb3⟩
      have S3 := Aside0.mk (S2.out.below hb3)
      clear hb3 f0 f1 g0
      obtain ⟨r, hr⟩ : ∃ r, r = posF (c.tables.map (·.name)) t.name := ⟨_, rfl⟩
      rw [← hr]
      by_cases hin : t.name ∈ c.tables.map (·.name)
      · have hr0 : (0 : Int) ≤ r := by obtain ⟨_, _, h⟩ := foundV_some hin; rw [hr]; exact h
        have HIN := Lib.hid hin
        clear hr hin
        have k0 : u3.frozen? ⟨w.heap.size + 1 + 1, 0, none⟩ = false := blk_frozen S3.out.b3 _
        have k1 : u3.frozen? ⟨w.heap.size + 1 + 1, 1, none⟩ = false := blk_frozen S3.out.b3 _
        have k2 : u3.cell? ⟨w.heap.size + 1 + 1, 0, none⟩ = some (.slice none 0 0) := blk_cell S3.out.b3 0
        have k3 : u3.cell? ⟨w.heap.size + 1 + 1, 1, none⟩ = some (.slice none 0 0) := blk_cell S3.out.b3 1
        go_wp2_with fail
        refine bodyPost_ret (results_row_tmp rfl _ _ (w.heap.size + 1 + 1) 25 #[.slice none 0 0, .slice none 0 0] (0, 0) _ rfl ((S3.out.set3 0 (.slice none 0 0) rfl).set3 1 (.slice none 0 0) rfl).b3 Try.underlying25 rfl (by kernel_rfl)) rfl ?_
        exact refuse_end S3.out (by unfold addTab; rw [if_pos ⟨HR.out, HM.out⟩, if_pos HIN.out])
      · have hr0 : r < (0 : Int) := by rw [hr, posF_none hin]; decide
        have HIN := Lib.hid hin
        clear hin hr
        have f0 : u3.cell? ⟨w.heap.size, 0, none⟩ = some (.slice A1 c.tables.length c1) := blk_cell S3.out.b1 0
        by_cases hl : 8 ≤ c.tables.length
        · have he : (8 : Int) ≤ (c.tables.length : Int) := by omega
          have HL := Lib.hid hl
          clear hl
          have k0 : u3.frozen? ⟨w.heap.size + 1 + 1, 0, none⟩ = false := blk_frozen S3.out.b3 _
          have k1 : u3.frozen? ⟨w.heap.size + 1 + 1, 1, none⟩ = false := blk_frozen S3.out.b3 _
          have k2 : u3.cell? ⟨w.heap.size + 1 + 1, 0, none⟩ = some (.slice none 0 0) := blk_cell S3.out.b3 0
          have k3 : u3.cell? ⟨w.heap.size + 1 + 1, 1, none⟩ = some (.slice none 0 0) := blk_cell S3.out.b3 1
          go_wp2_with fail
          refine bodyPost_ret (results_row_tmp rfl _ _ (w.heap.size + 1 + 1) 25 #[.slice none 0 0, .slice none 0 0] (0, 0) _ rfl ((S3.out.set3 0 (.slice none 0 0) rfl).set3 1 (.slice none 0 0) rfl).b3 Try.underlying25 rfl (by kernel_rfl)) rfl ?_
          exact refuse_end S3.out (by unfold addTab; rw [if_pos ⟨HR.out, HM.out⟩, if_neg HIN.out, if_pos (by have := HL.out; omega)])
        · have he : (c.tables.length : Int) < (8 : Int) := by omega
          have f00 : u3.cell? ⟨w.heap.size, 0, none⟩ = some (.slice A1 c.tables.length c1) := blk_cell S3.out.b1 0
          have f01 : u3.cell? ⟨w.heap.size, 1, none⟩ = some (.slice A2 c.procs.length c2) := blk_cell S3.out.b1 1
          go_wp2_with fail
          refine (ofRef_any c A1 c1 A2 c2 u3 (Kd.C_below HC1.out S3.out.bel) (Kd.C_below HC2.out S3.out.bel) HZ.out).mono ?_
          rintro e u4 ⟨v1, v2, rfl, ⟨hr1, hr2⟩, hb4⟩
          obtain ⟨V1, k1, hv1⟩ := Kd.R_slice hr1
          obtain ⟨V2, k2, hv2⟩ := Kd.R_slice hr2
          subst hv1 hv2
          have S4 := Aside0.mk (S3.out.below hb4)
          have R1 := Aside0.mk (Kd.R_bound hr1)
          have R2 := Aside0.mk (Kd.R_bound hr2)
          have hz3 := Lib.hid hb4.size
          clear hr1 hr2 hb4 f0 f00 f01
          have SAL := S4.out.alloc (Obj.cells #[.slice V1 c.tables.length k1, .slice V2 c.procs.length k2] 25)
          have g0 : (u4.alloc (Obj.cells #[.slice V1 c.tables.length k1, .slice V2 c.procs.length k2] 25)).cell? ⟨w.heap.size + 1, 0, none⟩ = some (.string t.name) := blk_cell SAL.b2 0
          have g1 : (u4.alloc (Obj.cells #[.slice V1 c.tables.length k1, .slice V2 c.procs.length k2] 25)).cell? ⟨w.heap.size + 1, 1, none⟩ = some (.slice A3 t.cols.length d3) := blk_cell SAL.b2 1
          have g2 : (u4.alloc (Obj.cells #[.slice V1 c.tables.length k1, .slice V2 c.procs.length k2] 25)).cell? ⟨w.heap.size + 1, 2, none⟩ = some (.slice A4 t.key.length d4) := blk_cell SAL.b2 2
          have g3 : (u4.alloc (Obj.cells #[.slice V1 c.tables.length k1, .slice V2 c.procs.length k2] 25)).cell? ⟨w.heap.size + 1, 3, none⟩ = some (.int .i64 t.part) := blk_cell SAL.b2 3
          have g4 : (u4.alloc (Obj.cells #[.slice V1 c.tables.length k1, .slice V2 c.procs.length k2] 25)).cell? ⟨w.heap.size + 1, 4, none⟩ = some (.slice A5 t.idx.length d5) := blk_cell SAL.b2 4
          go_wp2_with fail
          clear SAL g0 g1 g2 g3 g4
          obtain ⟨bx, hbx⟩ : ∃ bx, bx = u4.heap.size := ⟨_, rfl⟩
          obtain ⟨wa, hwa⟩ : ∃ wa, wa = u4.alloc (Obj.cells #[.slice V1 c.tables.length k1, .slice V2 c.procs.length k2] 25) := ⟨_, rfl⟩
          have hA0 : Below u4.heap.size u4 wa := by rw [hwa]; exact below_alloc (Below.refl _ _) _
          have hA1 : wa.heap[bx]? = some (Obj.cells #[.slice V1 c.tables.length k1, .slice V2 c.procs.length k2] 25) := by rw [hwa, hbx]; exact blk_alloc _ _
          have hbs : wa.heap.size = bx + 1 := by rw [hwa, hbx]; simp
          rw [← hwa, ← hbx]
          have SA := Aside0.mk (S4.out.below hA0)
          have HA0 := Aside0.mk hA0
          have HA1 := Aside0.mk hA1
          have HBX := Lib.hid hbx
          have HBS := Lib.hid hbs
          have R1a := Aside0.mk (Kd.R_below R1.out hA0)
          have R2a := Aside0.mk (Kd.R_below R2.out hA0)
          clear hwa hbx hA0 hA1 hbs
          refine (tabOfRef_any t A3 d3 A4 d4 A5 d5 wa (Kd.C_below HX1.out SA.out.bel) (Kd.C_below HX2.out SA.out.bel) (Kd.C_below HX3.out SA.out.bel) (by have := HZT.out.1; omega) (by have := HZT.out.2.1; omega) (by have := HZT.out.2.2.1; omega) (fun y hy => by have := HZT.out.2.2.2 y hy; omega)).mono ?_
          rintro e w5 ⟨v3, v4, v5, rfl, ⟨hr1, hr2, hr3⟩, hb5⟩
          obtain ⟨Y1, y1, hv1⟩ := Kd.R_slice hr1
          subst hv1
          obtain ⟨Y2, y2, hv2⟩ := Kd.R_slice hr2
          subst hv2
          obtain ⟨Y3, y3, hv3⟩ := Kd.R_slice hr3
          subst hv3
          have HMM : Aside0 (kTab.M w5 wa.heap.size (fun _ => True) t [.string t.name, .slice Y1 t.cols.length y1, .slice Y2 t.key.length y2, .int .i64 t.part, .slice Y3 t.idx.length y3]) := ⟨kTab_M.2 ⟨_, _, _, rfl, hr1, hr2, hr3⟩⟩
          have S5 := Aside0.mk (SA.out.below hb5)
          have R1b := Aside0.mk (Kd.R_below R1a.out hb5)
          have R2b := Aside0.mk (Kd.R_below R2a.out hb5)
          have HS5 := Lib.hid hb5.size
          have HA5 := Aside0.mk (blk_below HA1.out hb5)
          clear hr1 hr2 hr3 hb5
          obtain ⟨w6, hw6⟩ : ∃ u, u = w5.alloc (Obj.cells #[.string t.name, .slice Y1 t.cols.length y1, .slice Y2 t.key.length y2, .int .i64 t.part, .slice Y3 t.idx.length y3] 30) := ⟨_, rfl⟩
          have HW6 := Lib.hid hw6.symm
          have HS6 := Lib.hid (show w5.heap.size + 1 = w6.heap.size from by rw [hw6]; simp)
          have S6 := Aside0.mk (S5.out.alloc (Obj.cells #[.string t.name, .slice Y1 t.cols.length y1, .slice Y2 t.key.length y2, .int .i64 t.part, .slice Y3 t.idx.length y3] 30))
          have HA6 := Aside0.mk (blk_alloc' (o' := (Obj.cells #[.string t.name, .slice Y1 t.cols.length y1, .slice Y2 t.key.length y2, .int .i64 t.part, .slice Y3 t.idx.length y3] 30)) HA5.out)
          have R1c := Aside0.mk (R_alloc' R1b.out (Obj.cells #[.string t.name, .slice Y1 t.cols.length y1, .slice Y2 t.key.length y2, .int .i64 t.part, .slice Y3 t.idx.length y3] 30))
          have R2c := Aside0.mk (R_alloc' R2b.out (Obj.cells #[.string t.name, .slice Y1 t.cols.length y1, .slice Y2 t.key.length y2, .int .i64 t.part, .slice Y3 t.idx.length y3] 30))
          have hM6 := Kd.M_below (kTab.M_mono (ok' := fun k => wa.heap.size ≤ k ∧ k < w5.heap.size) (fun k hk => ⟨hk.2.1, hk.2.2.1⟩) (kTab.M_bound HMM.out)) (below_alloc (Below.refl _ _) (Obj.cells #[.string t.name, .slice Y1 t.cols.length y1, .slice Y2 t.key.length y2, .int .i64 t.part, .slice Y3 t.idx.length y3] 30))
          rw [← hw6] at S6 HA6 R1c R2c hM6
          have HM6 := Aside0.mk hM6
          have q0 : (w5.alloc (Obj.cells #[.string t.name, .slice Y1 t.cols.length y1, .slice Y2 t.key.length y2, .int .i64 t.part, .slice Y3 t.idx.length y3] 30)).cell? ⟨bx, 0, none⟩ = some (.slice V1 c.tables.length k1) := by rw [← hw6]; exact blk_cell HA6.out 0
          clear hM6 hw6
          go_wp2_with (at_builtin; (rw [HW6.out, HS6.out]); (go_loud (refine Kd.R_append kTab (w0 := w6) u3.heap.size rfl (.tmp 39) (.tmp 41) 22 30 _ 96 rfl Try.underlying22 info30 rfl (by decide) (by omega) _ c.tables t [.string t.name, .slice Y1 t.cols.length y1, .slice Y2 t.key.length y2, .int .i64 t.part, .slice Y3 t.idx.length y3] (fun k => u3.heap.size ≤ k ∧ k ≠ bx) (fun k => wa.heap.size ≤ k ∧ k < w5.heap.size) rfl rfl ?aP ?aK ?aF ?aO ?aB ?aS ?aL ?_)); (case aP => exact kTab.M_lower (Nat.le_trans hz3.out HA0.out.size) HM6.out); (case aK => exact fun i hi => ⟨⟨Nat.le_trans (Nat.le_trans hz3.out HA0.out.size) hi.1, by have h2 := HBS.out; have h3 := hi.1; omega⟩, fun he => by have h1 := Kd.R_lt R1.out i he.symm; have h2 := HA0.out.size; have h3 := hi.1; omega⟩); (case aF => exact fun i hi => by have h5 := HBS.out; have h1 := HS5.out; have h2 := HA0.out.size; have h4 := hz3.out; have h6 := HS6.out; omega); (case aO => exact Kd.R_mono R1c.out (fun i hi => ⟨hi.2.1, by have h1 := hi.2.2.1; have h2 := HBX.out; omega⟩)); (case aB => exact Below.refl _ _); (case aS => have h1 := HS5.out; have h2 := HA0.out.size; have h4 := hz3.out; have h6 := HS6.out; omega); (case aL => omega); intro v7 w7 ho7 hb7 hg7 hat7; (obtain ⟨V7, vc7, hv7⟩ := Kd.R_slice ho7); (rw [List.length_append, List.length_singleton] at hv7); (have hO7 := Aside0.mk ho7); (have hT7 := Aside0.mk (Kd.R_over (Kd.R_mono (ok' := fun k => u3.heap.size ≤ k ∧ k < u4.heap.size) R2c.out (fun i hi => ⟨hi.2.1, hi.2.2.1⟩)) R1c.out (by intro q hq; (have hq2 : q = 34 ∨ q = 66 ∨ q = 9 := (by simpa [kPrc, kPrm, Kd.iso, Kd.pair, Kd.slice, Kd.string, Kd.int, Kd.bool, Kd.scalar] using hq)); omega) hg7)); (have hm7 : Mod w6 w7 (fun i => u3.heap.size ≤ i ∧ some i = (Value.slice V1 c.tables.length k1).ownBlock) := ⟨hb7.os, hb7.tape, hb7.output, hg7.size, fun i hi hn => by (rcases Nat.lt_or_ge i u3.heap.size with h | h); exact hb7.block i h; exact hg7.block i hi (fun he => hn ⟨h, he⟩)⟩); (have S7 := Aside0.mk (S6.out.mod hm7 (fun i hi => by have := S3.out.sz; have := hi.1; omega))); (have HA7 := Aside0.mk (blk_mod HA6.out hm7 (fun h => by have := Kd.R_lt R1.out bx h.2.symm; have := HBX.out; omega))); subst hv7; (have hsz7 := Lib.hid hg7.size); clear ho7 hb7 hg7 hat7 hm7 q0; (have z1 := blk_cell HA7.out 0); (have z2 := blk_frozen HA7.out 0); (have z3 := blk_cell HA7.out 1); (have z4 : w7.cell? ⟨w.heap.size + 1 + 1, 0, none⟩ = some (.slice none 0 0) := blk_cell S7.out.b3 0); (have z5 : w7.cell? ⟨w.heap.size + 1 + 1, 1, none⟩ = some (.slice none 0 0) := blk_cell S7.out.b3 1); (have z6 : ∀ i, w7.frozen? ⟨w.heap.size + 1 + 1, i, none⟩ = false := fun i => blk_frozen S7.out.b3 i); (have z7 : ¬ bx = w.heap.size + 1 + 1 := by (have := S4.out.sz; have := HBX.out; omega)); (have z8 : ¬ w.heap.size + 1 + 1 = bx := fun h => z7 h.symm))
          have HB8 := Aside0.mk (blk_put HA7.out 0 (.slice V7 (c.tables.length + 1) vc7) (cs' := #[.slice V7 (c.tables.length + 1) vc7, .slice V2 c.procs.length k2]) rfl)
          have m8 := mod_setCell w7 bx 0 (.slice V7 (c.tables.length + 1) vc7)
          obtain ⟨w8, hw8⟩ : ∃ u, u = w7.setCell ⟨bx, 0, none⟩ (.slice V7 (c.tables.length + 1) vc7) := ⟨_, rfl⟩
          rw [← hw8]
          rw [← hw8] at HB8 m8
          have M8 := Aside0.mk m8
          have hbx3 : w.heap.size + 3 ≤ bx := by have := S4.out.sz; have := HBX.out; omega
          have S8 := Aside0.mk (S7.out.mod m8 (fun i hi => by omega))
          clear z1 z2 z3 z4 z5 z6 z7 z8 hw8 m8
          have hE := (S8.out.set3 0 (.slice V7 (c.tables.length + 1) vc7) rfl).set3 1 (.slice V2 c.procs.length k2) rfl
          have hm := (mod_setCell w8 (w.heap.size + 1 + 1) 0 (.slice V7 (c.tables.length + 1) vc7)).trans (mod_setCell _ _ 1 (.slice V2 c.procs.length k2))
          refine bodyPost_ret (results_row_tmp rfl _ _ (w.heap.size + 1 + 1) 25 #[.slice V7 (c.tables.length + 1) vc7, .slice V2 c.procs.length k2] (0, 0) _ rfl hE.b3 Try.underlying25 rfl (by kernel_rfl)) rfl ?_
          have hres : addTab c t = (0, ⟨c.tables ++ [t], c.procs⟩) := by
            unfold addTab
            rw [if_pos ⟨HR.out, HM.out⟩, if_neg HIN.out, if_neg (by have := HR.out.1; omega)]
          rw [hres]
          have hs3 := S3.out.sz
          have hne8 : kTab.R 30 w8 u3.heap.size (fun k => u3.heap.size ≤ k ∧ k ≠ bx) (.slice V7 (c.tables.length + 1) vc7) (c.tables ++ [t]) := Kd.R_step hO7.out (fun i hi hl => M8.out.block i hl hi.2)
          exact ⟨_, _, rfl, ⟨Kd.R_mono (Kd.R_lower (Kd.R_step hne8 (fun i hi hl => hm.block i hl (by omega))) (by omega)) (fun _ _ => trivial), Kd.R_mono (Kd.R_lower (Kd.R_step (Kd.R_step hT7.out (fun i hi hl => M8.out.block i hl (by have := HBX.out; omega))) (fun i hi hl => hm.block i hl (by omega))) (by omega)) (fun _ _ => trivial)⟩, hE.bel⟩
    · rw [decide_eq_false hM]
      have HM := Lib.hid hM
      clear hM
      have k0 : u2.frozen? ⟨w.heap.size + 1 + 1, 0, none⟩ = false := blk_frozen S2.out.b3 _
      have k1 : u2.frozen? ⟨w.heap.size + 1 + 1, 1, none⟩ = false := blk_frozen S2.out.b3 _
      have k2 : u2.cell? ⟨w.heap.size + 1 + 1, 0, none⟩ = some (.slice none 0 0) := blk_cell S2.out.b3 0
      have k3 : u2.cell? ⟨w.heap.size + 1 + 1, 1, none⟩ = some (.slice none 0 0) := blk_cell S2.out.b3 1
      go_wp2_with fail
      refine bodyPost_ret (results_row_tmp rfl _ _ (w.heap.size + 1 + 1) 25 #[.slice none 0 0, .slice none 0 0] (0, 0) _ rfl ((S2.out.set3 0 (.slice none 0 0) rfl).set3 1 (.slice none 0 0) rfl).b3 Try.underlying25 rfl (by kernel_rfl)) rfl ?_
      exact refuse_end S2.out (by unfold addTab; rw [if_neg (fun h => HM.out h.2)])
  · obtain rfl : b1 = false := by rw [HB1.out]; exact decide_eq_false hR
    have HR := Lib.hid hR
    clear hR
    have k0 : u2.frozen? ⟨w.heap.size + 1 + 1, 0, none⟩ = false := blk_frozen S2.out.b3 _
    have k1 : u2.frozen? ⟨w.heap.size + 1 + 1, 1, none⟩ = false := blk_frozen S2.out.b3 _
    have k2 : u2.cell? ⟨w.heap.size + 1 + 1, 0, none⟩ = some (.slice none 0 0) := blk_cell S2.out.b3 0
    have k3 : u2.cell? ⟨w.heap.size + 1 + 1, 1, none⟩ = some (.slice none 0 0) := blk_cell S2.out.b3 1
    go_wp2_with fail
    refine bodyPost_ret (results_row_tmp rfl _ _ (w.heap.size + 1 + 1) 25 #[.slice none 0 0, .slice none 0 0] (0, 0) _ rfl ((S2.out.set3 0 (.slice none 0 0) rfl).set3 1 (.slice none 0 0) rfl).b3 Try.underlying25 rfl (by kernel_rfl)) rfl ?_
    exact refuse_end S2.out (by unfold addTab; rw [if_neg (fun h => HR.out h.1)])
set_option maxRecDepth 100000 in
set_option maxHeartbeats 8000000 in
theorem addPrcRef_any (c : Cat) (A1 : Option Addr) (c1 : Nat) (A2 : Option Addr) (c2 : Nat) (t : Prc) (A3 : Option Addr) (d3 : Nat) (A4 : Option Addr) (d4 : Nat) (w : World)
    (hC1 : kTab.C w A1 c.tables.length c.tables) (hC2 : kPrc.C w A2 c.procs.length c.procs) (hz : SzCat c) (hX1 : kPrm.C w A3 t.params.length t.params) (hX2 : Kd.string.C w A4 t.body.length t.body) (hzt : SzPrc t) (hbd : BdCat c) (hbt : BdPrc t) :
    Calls Try.prog 17 #[.agg #[.slice A1 c.tables.length c1, .slice A2 c.procs.length c2], .agg #[.string t.name, .slice A3 t.params.length d3, .slice A4 t.body.length d4, .int .i64 t.rows, .int .i64 t.bytes]] w (CatOut (addPrc c t) w) := by
  have HC1 := Aside0.mk hC1
  have HC2 := Aside0.mk hC2
  have HZ := Lib.hid hz
  have HZT := Lib.hid hzt
  have HBD := Lib.hid hbd
  have HBT := Lib.hid hbt
  have hz1 := hz.1
  have hz2 := hz.2.1
  have HX1 := Aside0.mk hX1
  have HX2 := Aside0.mk hX2
  clear hC1 hC2 hz hzt hbd hbt hX1 hX2
  have hst := St3.start w (catBox c.tables.length c.procs.length A1 c1 A2 c2) (prcBox t A3 d3 A4 d4) zCat
  have hw0 : ((w.alloc (Obj.cells #[.slice A1 c.tables.length c1, .slice A2 c.procs.length c2] 25)).alloc (Obj.cells #[.string t.name, .slice A3 t.params.length d3, .slice A4 t.body.length d4, .int .i64 t.rows, .int .i64 t.bytes] 34)).alloc (Obj.cells #[.slice none 0 0, .slice none 0 0] 25) = ((w.alloc (catBox c.tables.length c.procs.length A1 c1 A2 c2)).alloc (prcBox t A3 d3 A4 d4)).alloc zCat := rfl
  obtain ⟨W, hW⟩ : ∃ W, W = ((w.alloc (catBox c.tables.length c.procs.length A1 c1 A2 c2)).alloc (prcBox t A3 d3 A4 d4)).alloc zCat := ⟨_, rfl⟩
  rw [← hW] at hst hw0
  have HW0 := Aside0.mk hw0
  have S0 := Aside0.mk hst
  clear hW hw0 hst
  go_enter Try.func17, Try.ntmps17
  have f0 : W.cell? ⟨w.heap.size, 0, none⟩ = some (.slice A1 c.tables.length c1) := blk_cell S0.out.b1 0
  have f1 : W.cell? ⟨w.heap.size, 1, none⟩ = some (.slice A2 c.procs.length c2) := blk_cell S0.out.b1 1
  go_wp2_with fail
  rw [HW0.out]
  refine (rightRef_any c A1 c1 A2 c2 W (Kd.C_below HC1.out S0.out.bel) (Kd.C_below HC2.out S0.out.bel) HBD.out).mono ?_
  rintro e u1 ⟨rfl, hb1⟩
  have S1 := Aside0.mk (S0.out.below hb1)
  clear hb1 f0 f1
  have g0 : u1.cell? ⟨w.heap.size + 1, 0, none⟩ = some (.string t.name) := blk_cell S1.out.b2 0
  have g1 : u1.cell? ⟨w.heap.size + 1, 1, none⟩ = some (.slice A3 t.params.length d3) := blk_cell S1.out.b2 1
  have g2 : u1.cell? ⟨w.heap.size + 1, 2, none⟩ = some (.slice A4 t.body.length d4) := blk_cell S1.out.b2 2
  have g3 : u1.cell? ⟨w.heap.size + 1, 3, none⟩ = some (.int .i64 t.rows) := blk_cell S1.out.b2 3
  have g4 : u1.cell? ⟨w.heap.size + 1, 4, none⟩ = some (.int .i64 t.bytes) := blk_cell S1.out.b2 4
  obtain ⟨b1, hb1⟩ : ∃ b, b = decide (RightCat c) := ⟨_, rfl⟩
  rw [← hb1]
  have HB1 := Lib.hid hb1
  clear hb1
  go_wp2_with fail
  refine (mayPrcRef_any t A3 d3 A4 d4 u1 (Kd.C_below HX1.out S1.out.bel) (Kd.C_below HX2.out S1.out.bel) HBT.out).mono ?_
  rintro e u2 ⟨rfl, hb2⟩
  have S2 := Aside0.mk (S1.out.below hb2)
  clear hb2 g0 g1 g2 g3 g4
  by_cases hR : RightCat c
  · obtain rfl : b1 = true := by rw [HB1.out]; exact decide_eq_true hR
    have HR := Lib.hid hR
    clear hR
    by_cases hM : MayPrc t
    · rw [decide_eq_true hM]
      have HM := Lib.hid hM
      clear hM
      have f0 : u2.cell? ⟨w.heap.size, 0, none⟩ = some (.slice A1 c.tables.length c1) := blk_cell S2.out.b1 0
      have f1 : u2.cell? ⟨w.heap.size, 1, none⟩ = some (.slice A2 c.procs.length c2) := blk_cell S2.out.b1 1
      have g0 : u2.cell? ⟨w.heap.size + 1, 0, none⟩ = some (.string t.name) := blk_cell S2.out.b2 0
      go_wp2_with fail
      refine (posProc_any A1 c.tables.length c1 A2 c.procs.length c2 c.procs t.name u2 (Kd.C_below HC2.out S2.out.bel)).mono ?_
      rintro e u3 ⟨rfl, hb3⟩
      have S3 := Aside0.mk (S2.out.below hb3)
      clear hb3 f0 f1 g0
      obtain ⟨r, hr⟩ : ∃ r, r = posF (c.procs.map (·.name)) t.name := ⟨_, rfl⟩
      rw [← hr]
      by_cases hin : t.name ∈ c.procs.map (·.name)
      · have hr0 : (0 : Int) ≤ r := by obtain ⟨_, _, h⟩ := foundV_some hin; rw [hr]; exact h
        have HIN := Lib.hid hin
        clear hr hin
        have k0 : u3.frozen? ⟨w.heap.size + 1 + 1, 0, none⟩ = false := blk_frozen S3.out.b3 _
        have k1 : u3.frozen? ⟨w.heap.size + 1 + 1, 1, none⟩ = false := blk_frozen S3.out.b3 _
        have k2 : u3.cell? ⟨w.heap.size + 1 + 1, 0, none⟩ = some (.slice none 0 0) := blk_cell S3.out.b3 0
        have k3 : u3.cell? ⟨w.heap.size + 1 + 1, 1, none⟩ = some (.slice none 0 0) := blk_cell S3.out.b3 1
        go_wp2_with fail
        refine bodyPost_ret (results_row_tmp rfl _ _ (w.heap.size + 1 + 1) 25 #[.slice none 0 0, .slice none 0 0] (0, 0) _ rfl ((S3.out.set3 0 (.slice none 0 0) rfl).set3 1 (.slice none 0 0) rfl).b3 Try.underlying25 rfl (by kernel_rfl)) rfl ?_
        exact refuse_end S3.out (by unfold addPrc; rw [if_pos ⟨HR.out, HM.out⟩, if_pos HIN.out])
      · have hr0 : r < (0 : Int) := by rw [hr, posF_none hin]; decide
        have HIN := Lib.hid hin
        clear hin hr
        have f0 : u3.cell? ⟨w.heap.size, 1, none⟩ = some (.slice A2 c.procs.length c2) := blk_cell S3.out.b1 1
        by_cases hl : 16 ≤ c.procs.length
        · have he : (16 : Int) ≤ (c.procs.length : Int) := by omega
          have HL := Lib.hid hl
          clear hl
          have k0 : u3.frozen? ⟨w.heap.size + 1 + 1, 0, none⟩ = false := blk_frozen S3.out.b3 _
          have k1 : u3.frozen? ⟨w.heap.size + 1 + 1, 1, none⟩ = false := blk_frozen S3.out.b3 _
          have k2 : u3.cell? ⟨w.heap.size + 1 + 1, 0, none⟩ = some (.slice none 0 0) := blk_cell S3.out.b3 0
          have k3 : u3.cell? ⟨w.heap.size + 1 + 1, 1, none⟩ = some (.slice none 0 0) := blk_cell S3.out.b3 1
          go_wp2_with fail
          refine bodyPost_ret (results_row_tmp rfl _ _ (w.heap.size + 1 + 1) 25 #[.slice none 0 0, .slice none 0 0] (0, 0) _ rfl ((S3.out.set3 0 (.slice none 0 0) rfl).set3 1 (.slice none 0 0) rfl).b3 Try.underlying25 rfl (by kernel_rfl)) rfl ?_
          exact refuse_end S3.out (by unfold addPrc; rw [if_pos ⟨HR.out, HM.out⟩, if_neg HIN.out, if_pos (by have := HL.out; omega)])
        · have he : (c.procs.length : Int) < (16 : Int) := by omega
          have f00 : u3.cell? ⟨w.heap.size, 0, none⟩ = some (.slice A1 c.tables.length c1) := blk_cell S3.out.b1 0
          have f01 : u3.cell? ⟨w.heap.size, 1, none⟩ = some (.slice A2 c.procs.length c2) := blk_cell S3.out.b1 1
          go_wp2_with fail
          refine (ofRef_any c A1 c1 A2 c2 u3 (Kd.C_below HC1.out S3.out.bel) (Kd.C_below HC2.out S3.out.bel) HZ.out).mono ?_
          rintro e u4 ⟨v1, v2, rfl, ⟨hr1, hr2⟩, hb4⟩
          obtain ⟨V1, k1, hv1⟩ := Kd.R_slice hr1
          obtain ⟨V2, k2, hv2⟩ := Kd.R_slice hr2
          subst hv1 hv2
          have S4 := Aside0.mk (S3.out.below hb4)
          have R1 := Aside0.mk (Kd.R_bound hr1)
          have R2 := Aside0.mk (Kd.R_bound hr2)
          have hz3 := Lib.hid hb4.size
          clear hr1 hr2 hb4 f0 f00 f01
          have SAL := S4.out.alloc (Obj.cells #[.slice V1 c.tables.length k1, .slice V2 c.procs.length k2] 25)
          have g0 : (u4.alloc (Obj.cells #[.slice V1 c.tables.length k1, .slice V2 c.procs.length k2] 25)).cell? ⟨w.heap.size + 1, 0, none⟩ = some (.string t.name) := blk_cell SAL.b2 0
          have g1 : (u4.alloc (Obj.cells #[.slice V1 c.tables.length k1, .slice V2 c.procs.length k2] 25)).cell? ⟨w.heap.size + 1, 1, none⟩ = some (.slice A3 t.params.length d3) := blk_cell SAL.b2 1
          have g2 : (u4.alloc (Obj.cells #[.slice V1 c.tables.length k1, .slice V2 c.procs.length k2] 25)).cell? ⟨w.heap.size + 1, 2, none⟩ = some (.slice A4 t.body.length d4) := blk_cell SAL.b2 2
          have g3 : (u4.alloc (Obj.cells #[.slice V1 c.tables.length k1, .slice V2 c.procs.length k2] 25)).cell? ⟨w.heap.size + 1, 3, none⟩ = some (.int .i64 t.rows) := blk_cell SAL.b2 3
          have g4 : (u4.alloc (Obj.cells #[.slice V1 c.tables.length k1, .slice V2 c.procs.length k2] 25)).cell? ⟨w.heap.size + 1, 4, none⟩ = some (.int .i64 t.bytes) := blk_cell SAL.b2 4
          go_wp2_with fail
          clear SAL g0 g1 g2 g3 g4
          obtain ⟨bx, hbx⟩ : ∃ bx, bx = u4.heap.size := ⟨_, rfl⟩
          obtain ⟨wa, hwa⟩ : ∃ wa, wa = u4.alloc (Obj.cells #[.slice V1 c.tables.length k1, .slice V2 c.procs.length k2] 25) := ⟨_, rfl⟩
          have hA0 : Below u4.heap.size u4 wa := by rw [hwa]; exact below_alloc (Below.refl _ _) _
          have hA1 : wa.heap[bx]? = some (Obj.cells #[.slice V1 c.tables.length k1, .slice V2 c.procs.length k2] 25) := by rw [hwa, hbx]; exact blk_alloc _ _
          have hbs : wa.heap.size = bx + 1 := by rw [hwa, hbx]; simp
          rw [← hwa, ← hbx]
          have SA := Aside0.mk (S4.out.below hA0)
          have HA0 := Aside0.mk hA0
          have HA1 := Aside0.mk hA1
          have HBX := Lib.hid hbx
          have HBS := Lib.hid hbs
          have R1a := Aside0.mk (Kd.R_below R1.out hA0)
          have R2a := Aside0.mk (Kd.R_below R2.out hA0)
          clear hwa hbx hA0 hA1 hbs
          refine (prcOfRef_any t A3 d3 A4 d4 wa (Kd.C_below HX1.out SA.out.bel) (Kd.C_below HX2.out SA.out.bel) (by have := HZT.out.1; omega) (by have := HZT.out.2; omega)).mono ?_
          rintro e w5 ⟨v3, v4, rfl, ⟨hr1, hr2⟩, hb5⟩
          obtain ⟨Y1, y1, hv1⟩ := Kd.R_slice hr1
          subst hv1
          obtain ⟨Y2, y2, hv2⟩ := Kd.R_slice hr2
          subst hv2
          have HMM : Aside0 (kPrc.M w5 wa.heap.size (fun _ => True) t [.string t.name, .slice Y1 t.params.length y1, .slice Y2 t.body.length y2, .int .i64 t.rows, .int .i64 t.bytes]) := ⟨kPrc_M.2 ⟨_, _, rfl, hr1, hr2⟩⟩
          have S5 := Aside0.mk (SA.out.below hb5)
          have R1b := Aside0.mk (Kd.R_below R1a.out hb5)
          have R2b := Aside0.mk (Kd.R_below R2a.out hb5)
          have HS5 := Lib.hid hb5.size
          have HA5 := Aside0.mk (blk_below HA1.out hb5)
          clear hr1 hr2 hb5
          obtain ⟨w6, hw6⟩ : ∃ u, u = w5.alloc (Obj.cells #[.string t.name, .slice Y1 t.params.length y1, .slice Y2 t.body.length y2, .int .i64 t.rows, .int .i64 t.bytes] 34) := ⟨_, rfl⟩
          have HW6 := Lib.hid hw6.symm
          have HS6 := Lib.hid (show w5.heap.size + 1 = w6.heap.size from by rw [hw6]; simp)
          have S6 := Aside0.mk (S5.out.alloc (Obj.cells #[.string t.name, .slice Y1 t.params.length y1, .slice Y2 t.body.length y2, .int .i64 t.rows, .int .i64 t.bytes] 34))
          have HA6 := Aside0.mk (blk_alloc' (o' := (Obj.cells #[.string t.name, .slice Y1 t.params.length y1, .slice Y2 t.body.length y2, .int .i64 t.rows, .int .i64 t.bytes] 34)) HA5.out)
          have R1c := Aside0.mk (R_alloc' R1b.out (Obj.cells #[.string t.name, .slice Y1 t.params.length y1, .slice Y2 t.body.length y2, .int .i64 t.rows, .int .i64 t.bytes] 34))
          have R2c := Aside0.mk (R_alloc' R2b.out (Obj.cells #[.string t.name, .slice Y1 t.params.length y1, .slice Y2 t.body.length y2, .int .i64 t.rows, .int .i64 t.bytes] 34))
          have hM6 := Kd.M_below (kPrc.M_mono (ok' := fun k => wa.heap.size ≤ k ∧ k < w5.heap.size) (fun k hk => ⟨hk.2.1, hk.2.2.1⟩) (kPrc.M_bound HMM.out)) (below_alloc (Below.refl _ _) (Obj.cells #[.string t.name, .slice Y1 t.params.length y1, .slice Y2 t.body.length y2, .int .i64 t.rows, .int .i64 t.bytes] 34))
          rw [← hw6] at S6 HA6 R1c R2c hM6
          have HM6 := Aside0.mk hM6
          have q0 : (w5.alloc (Obj.cells #[.string t.name, .slice Y1 t.params.length y1, .slice Y2 t.body.length y2, .int .i64 t.rows, .int .i64 t.bytes] 34)).cell? ⟨bx, 1, none⟩ = some (.slice V2 c.procs.length k2) := by rw [← hw6]; exact blk_cell HA6.out 1
          clear hM6 hw6
          go_wp2_with (at_builtin; (rw [HW6.out, HS6.out]); (go_loud (refine Kd.R_append kPrc (w0 := w6) u3.heap.size rfl (.tmp 39) (.tmp 41) 23 34 _ 80 rfl Try.underlying23 info34 rfl (by decide) (by omega) _ c.procs t [.string t.name, .slice Y1 t.params.length y1, .slice Y2 t.body.length y2, .int .i64 t.rows, .int .i64 t.bytes] (fun k => u3.heap.size ≤ k ∧ k ≠ bx) (fun k => wa.heap.size ≤ k ∧ k < w5.heap.size) rfl rfl ?aP ?aK ?aF ?aO ?aB ?aS ?aL ?_)); (case aP => exact kPrc.M_lower (Nat.le_trans hz3.out HA0.out.size) HM6.out); (case aK => exact fun i hi => ⟨⟨Nat.le_trans (Nat.le_trans hz3.out HA0.out.size) hi.1, by have h2 := HBS.out; have h3 := hi.1; omega⟩, fun he => by have h1 := Kd.R_lt R2.out i he.symm; have h2 := HA0.out.size; have h3 := hi.1; omega⟩); (case aF => exact fun i hi => by have h5 := HBS.out; have h1 := HS5.out; have h2 := HA0.out.size; have h4 := hz3.out; have h6 := HS6.out; omega); (case aO => exact Kd.R_mono R2c.out (fun i hi => ⟨hi.2.1, by have h1 := hi.2.2.1; have h2 := HBX.out; omega⟩)); (case aB => exact Below.refl _ _); (case aS => have h1 := HS5.out; have h2 := HA0.out.size; have h4 := hz3.out; have h6 := HS6.out; omega); (case aL => omega); intro v7 w7 ho7 hb7 hg7 hat7; (obtain ⟨V7, vc7, hv7⟩ := Kd.R_slice ho7); (rw [List.length_append, List.length_singleton] at hv7); (have hO7 := Aside0.mk ho7); (have hT7 := Aside0.mk (Kd.R_over (Kd.R_mono (ok' := fun k => u3.heap.size ≤ k ∧ k < u4.heap.size) R1c.out (fun i hi => ⟨hi.2.1, hi.2.2.1⟩)) R2c.out (by intro q hq; (have hq2 : q = 30 ∨ q = 62 ∨ q = 3 ∨ q = 64 ∨ q = 3 := (by simpa [kTab, kCol, kIdx, Kd.iso, Kd.pair, Kd.slice, Kd.string, Kd.int, Kd.bool, Kd.scalar] using hq)); omega) hg7)); (have hm7 : Mod w6 w7 (fun i => u3.heap.size ≤ i ∧ some i = (Value.slice V2 c.procs.length k2).ownBlock) := ⟨hb7.os, hb7.tape, hb7.output, hg7.size, fun i hi hn => by (rcases Nat.lt_or_ge i u3.heap.size with h | h); exact hb7.block i h; exact hg7.block i hi (fun he => hn ⟨h, he⟩)⟩); (have S7 := Aside0.mk (S6.out.mod hm7 (fun i hi => by have := S3.out.sz; have := hi.1; omega))); (have HA7 := Aside0.mk (blk_mod HA6.out hm7 (fun h => by have := Kd.R_lt R2.out bx h.2.symm; have := HBX.out; omega))); subst hv7; (have hsz7 := Lib.hid hg7.size); clear ho7 hb7 hg7 hat7 hm7 q0; (have z1 := blk_cell HA7.out 1); (have z2 := blk_frozen HA7.out 1); (have z3 := blk_cell HA7.out 0); (have z4 : w7.cell? ⟨w.heap.size + 1 + 1, 0, none⟩ = some (.slice none 0 0) := blk_cell S7.out.b3 0); (have z5 : w7.cell? ⟨w.heap.size + 1 + 1, 1, none⟩ = some (.slice none 0 0) := blk_cell S7.out.b3 1); (have z6 : ∀ i, w7.frozen? ⟨w.heap.size + 1 + 1, i, none⟩ = false := fun i => blk_frozen S7.out.b3 i); (have z7 : ¬ bx = w.heap.size + 1 + 1 := by (have := S4.out.sz; have := HBX.out; omega)); (have z8 : ¬ w.heap.size + 1 + 1 = bx := fun h => z7 h.symm))
          have HB8 := Aside0.mk (blk_put HA7.out 1 (.slice V7 (c.procs.length + 1) vc7) (cs' := #[.slice V1 c.tables.length k1, .slice V7 (c.procs.length + 1) vc7]) rfl)
          have m8 := mod_setCell w7 bx 1 (.slice V7 (c.procs.length + 1) vc7)
          obtain ⟨w8, hw8⟩ : ∃ u, u = w7.setCell ⟨bx, 1, none⟩ (.slice V7 (c.procs.length + 1) vc7) := ⟨_, rfl⟩
          rw [← hw8]
          rw [← hw8] at HB8 m8
          have M8 := Aside0.mk m8
          have hbx3 : w.heap.size + 3 ≤ bx := by have := S4.out.sz; have := HBX.out; omega
          have S8 := Aside0.mk (S7.out.mod m8 (fun i hi => by omega))
          clear z1 z2 z3 z4 z5 z6 z7 z8 hw8 m8
          have hE := (S8.out.set3 0 (.slice V1 c.tables.length k1) rfl).set3 1 (.slice V7 (c.procs.length + 1) vc7) rfl
          have hm := (mod_setCell w8 (w.heap.size + 1 + 1) 0 (.slice V1 c.tables.length k1)).trans (mod_setCell _ _ 1 (.slice V7 (c.procs.length + 1) vc7))
          refine bodyPost_ret (results_row_tmp rfl _ _ (w.heap.size + 1 + 1) 25 #[.slice V1 c.tables.length k1, .slice V7 (c.procs.length + 1) vc7] (0, 0) _ rfl hE.b3 Try.underlying25 rfl (by kernel_rfl)) rfl ?_
          have hres : addPrc c t = (0, ⟨c.tables, c.procs ++ [t]⟩) := by
            unfold addPrc
            rw [if_pos ⟨HR.out, HM.out⟩, if_neg HIN.out, if_neg (by have := HR.out.2.1; omega)]
          rw [hres]
          have hs3 := S3.out.sz
          have hne8 : kPrc.R 34 w8 u3.heap.size (fun k => u3.heap.size ≤ k ∧ k ≠ bx) (.slice V7 (c.procs.length + 1) vc7) (c.procs ++ [t]) := Kd.R_step hO7.out (fun i hi hl => M8.out.block i hl hi.2)
          exact ⟨_, _, rfl, ⟨Kd.R_mono (Kd.R_lower (Kd.R_step (Kd.R_step hT7.out (fun i hi hl => M8.out.block i hl (by have := HBX.out; omega))) (fun i hi hl => hm.block i hl (by omega))) (by omega)) (fun _ _ => trivial), Kd.R_mono (Kd.R_lower (Kd.R_step hne8 (fun i hi hl => hm.block i hl (by omega))) (by omega)) (fun _ _ => trivial)⟩, hE.bel⟩
    · rw [decide_eq_false hM]
      have HM := Lib.hid hM
      clear hM
      have k0 : u2.frozen? ⟨w.heap.size + 1 + 1, 0, none⟩ = false := blk_frozen S2.out.b3 _
      have k1 : u2.frozen? ⟨w.heap.size + 1 + 1, 1, none⟩ = false := blk_frozen S2.out.b3 _
      have k2 : u2.cell? ⟨w.heap.size + 1 + 1, 0, none⟩ = some (.slice none 0 0) := blk_cell S2.out.b3 0
      have k3 : u2.cell? ⟨w.heap.size + 1 + 1, 1, none⟩ = some (.slice none 0 0) := blk_cell S2.out.b3 1
      go_wp2_with fail
      refine bodyPost_ret (results_row_tmp rfl _ _ (w.heap.size + 1 + 1) 25 #[.slice none 0 0, .slice none 0 0] (0, 0) _ rfl ((S2.out.set3 0 (.slice none 0 0) rfl).set3 1 (.slice none 0 0) rfl).b3 Try.underlying25 rfl (by kernel_rfl)) rfl ?_
      exact refuse_end S2.out (by unfold addPrc; rw [if_neg (fun h => HM.out h.2)])
  · obtain rfl : b1 = false := by rw [HB1.out]; exact decide_eq_false hR
    have HR := Lib.hid hR
    clear hR
    have k0 : u2.frozen? ⟨w.heap.size + 1 + 1, 0, none⟩ = false := blk_frozen S2.out.b3 _
    have k1 : u2.frozen? ⟨w.heap.size + 1 + 1, 1, none⟩ = false := blk_frozen S2.out.b3 _
    have k2 : u2.cell? ⟨w.heap.size + 1 + 1, 0, none⟩ = some (.slice none 0 0) := blk_cell S2.out.b3 0
    have k3 : u2.cell? ⟨w.heap.size + 1 + 1, 1, none⟩ = some (.slice none 0 0) := blk_cell S2.out.b3 1
    go_wp2_with fail
    refine bodyPost_ret (results_row_tmp rfl _ _ (w.heap.size + 1 + 1) 25 #[.slice none 0 0, .slice none 0 0] (0, 0) _ rfl ((S2.out.set3 0 (.slice none 0 0) rfl).set3 1 (.slice none 0 0) rfl).b3 Try.underlying25 rfl (by kernel_rfl)) rfl ?_
    exact refuse_end S2.out (by unfold addPrc; rw [if_neg (fun h => HR.out h.1)])
end Go.Proofs.Ytcmgdieeclninaa
