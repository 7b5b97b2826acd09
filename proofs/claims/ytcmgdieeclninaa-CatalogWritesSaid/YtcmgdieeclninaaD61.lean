/- Layer 08: D61 the law Writes -/
import Derived.Test.YtcmgdieeclninaaD49
import Derived.Test.YtcmgdieeclninaaD38
set_option linter.unusedVariables false
set_option linter.unusedSimpArgs false
namespace Go.Proofs.Ytcmgdieeclninaa
open Go.RowKit Go.Proofs.YtcmgdieeclninaaW.PrintWords
set_option maxRecDepth 100000 in
set_option maxHeartbeats 8000000 in
theorem writes_any (cs0 : Array Value) (c : Cat) (W : World) (hK0 : kCat.K W c cs0.toList) (hZ0 : SzCat c ∧ BdCat c) :
    Calls Try.prog 5 #[.agg cs0] W fun e W' => e = .returned (.bool true) ∧ Below W.heap.size W W' := by
  obtain ⟨A1, a1, A2, a2, rfl, ⟨hA1, lA1⟩, hA2, lA2⟩ := kCat_open hK0
  clear hK0
  obtain ⟨w1, hw1, b1, s1, hb1⟩ := grow (W := W) rfl #[.slice A1 c.tables.length a1, .slice A2 c.procs.length a2] 25
  obtain ⟨g1, hg1⟩ : ∃ g, g = W.heap.size := ⟨_, rfl⟩
  have BX1 := Aside0.mk b1
  rw [← hg1] at BX1
  have HB1 := Aside0.mk hb1
  have CA1 := Aside0.mk (Kd.C_below hA1 hb1)
  have CA2 := Aside0.mk (Kd.C_below hA2 hb1)
  have Z0 := Aside0.mk hZ0
  clear hA1 hA2 hZ0 hb1 b1 s1
  go_enter Try.func5, Try.ntmps5
  go_wp2_with fail
  rw [← hw1, ← hg1]
  clear hw1 hg1
  refine (weighs_any c A1 a1 A2 a2 w1 CA1.out CA2.out Z0.out.2 Z0.out.1).mono ?_
  rintro e w2 ⟨n, rfl, hb2⟩
  have B2 := Aside0.mk hb2
  clear hb2
  by_cases h1 : 2147483647 < n
  · have hend : Below W.heap.size W w2 := below_then HB1.out HB1.out.size B2.out
    go_wp2_with fail
    go_ret
    exact ⟨rfl, hend⟩
  · go_wp2_with fail
    refine (awake_any w2).mono ?_
    rintro e w3 ⟨rfl, hb3⟩
    have B3 := Aside0.mk (below_then B2.out B2.out.size hb3)
    clear hb3 B2
    have k0 : w3.cell? ⟨g1, 0, none⟩ = some (.slice A1 c.tables.length a1) := blk_cell (blk_below BX1.out B3.out) 0
    have k1 : w3.cell? ⟨g1, 1, none⟩ = some (.slice A2 c.procs.length a2) := blk_cell (blk_below BX1.out B3.out) 1
    go_wp2_with fail
    refine (ofRef_any c A1 a1 A2 a2 w3 (Kd.C_below CA1.out B3.out) (Kd.C_below CA2.out B3.out) Z0.out.1).mono ?_
    rintro e w4 ⟨v1, v2, rfl, ⟨ho1, ho2⟩, hb4⟩
    obtain ⟨O1, o1, rfl, _, hO1⟩ := Kd.R_reads ho1
    obtain ⟨O2, o2, rfl, _, hO2⟩ := Kd.R_reads ho2
    obtain ⟨w5, hw5, b4, s5, hb5⟩ := grow (W := w4) rfl #[.slice O1 c.tables.length o1, .slice O2 c.procs.length o2] 25
    obtain ⟨g4, hg4⟩ : ∃ g, g = w4.heap.size := ⟨_, rfl⟩
    rw [← hg4] at b4
    have B5 := below_then (below_then B3.out B3.out.size hb4) (by have := B3.out.size; have := hb4.size; omega) hb5
    have BX4 := Aside0.mk b4
    have CO1 := Aside0.mk (Kd.C_below hO1 hb5)
    have CO2 := Aside0.mk (Kd.C_below hO2 hb5)
    replace BX1 := Aside0.mk (blk_below BX1.out B5)
    replace CA1 := Aside0.mk (Kd.C_below CA1.out B5)
    replace CA2 := Aside0.mk (Kd.C_below CA2.out B5)
    have HBW := Aside0.mk (below_then HB1.out HB1.out.size B5)
    clear ho1 ho2 hO1 hO2 hb4 hb5 b4 s5 k0 k1 B3 B5 HB1
    have k0 : w5.cell? ⟨g4, 0, none⟩ = some (.slice O1 c.tables.length o1) := blk_cell BX4.out 0
    have k1 : w5.cell? ⟨g4, 1, none⟩ = some (.slice O2 c.procs.length o2) := blk_cell BX4.out 1
    rw [hw5] at k0 k1
    go_wp2_with fail
    rw [← hw5, ← hg4]
    clear hw5 hg4 k0 k1
    refine (right_any c O1 o1 O2 o2 w5 CO1.out CO2.out).mono ?_
    rintro e w6 ⟨rfl, hb6⟩
    have B6 := Aside0.mk hb6
    clear hb6
    have k0 : w6.cell? ⟨g1, 0, none⟩ = some (.slice A1 c.tables.length a1) := blk_cell (blk_below BX1.out B6.out) 0
    have k1 : w6.cell? ⟨g1, 1, none⟩ = some (.slice A2 c.procs.length a2) := blk_cell (blk_below BX1.out B6.out) 1
    go_wp2_with fail
    clear k0 k1
    refine (rightRef_any c A1 a1 A2 a2 w6 (Kd.C_below CA1.out B6.out) (Kd.C_below CA2.out B6.out) Z0.out.2).mono ?_
    rintro e w7 ⟨rfl, hb7⟩
    have B7 := Aside0.mk (below_then B6.out B6.out.size hb7)
    clear hb7 B6
    have k0 : w7.cell? ⟨g4, 0, none⟩ = some (.slice O1 c.tables.length o1) := blk_cell (blk_below BX4.out B7.out) 0
    have k1 : w7.cell? ⟨g4, 1, none⟩ = some (.slice O2 c.procs.length o2) := blk_cell (blk_below BX4.out B7.out) 1
    go_wp2_with fail
    clear k0 k1
    obtain ⟨⟨es, ee⟩, hes⟩ : ∃ r, r = encO c := ⟨_, rfl⟩
    refine (encode_any c O1 o1 O2 o2 w7 (Kd.C_below CO1.out B7.out) (Kd.C_below CO2.out B7.out)).mono ?_
    intro e w8 hq
    rw [← hes] at hq
    dsimp only at hq
    obtain ⟨rfl, hb8⟩ := hq
    have B8 := Aside0.mk (below_then B7.out B7.out.size hb8)
    clear hb8 B7
    have k0 : w8.cell? ⟨g1, 0, none⟩ = some (.slice A1 c.tables.length a1) := blk_cell (blk_below BX1.out B8.out) 0
    have k1 : w8.cell? ⟨g1, 1, none⟩ = some (.slice A2 c.procs.length a2) := blk_cell (blk_below BX1.out B8.out) 1
    go_wp2_with fail
    clear k0 k1
    refine (encodeRef_any c A1 a1 A2 a2 w8 (Kd.C_below CA1.out B8.out) (Kd.C_below CA2.out B8.out) Z0.out.2).mono ?_
    intro e w9 hq
    rw [← hes] at hq
    dsimp only at hq
    obtain ⟨rfl, hb9⟩ := hq
    have B9 := Aside0.mk (below_then B8.out B8.out.size hb9)
    clear hb9 B8
    have k0 : w9.cell? ⟨g4, 0, none⟩ = some (.slice O1 c.tables.length o1) := blk_cell (blk_below BX4.out B9.out) 0
    have k1 : w9.cell? ⟨g4, 1, none⟩ = some (.slice O2 c.procs.length o2) := blk_cell (blk_below BX4.out B9.out) 1
    have k2 : w9.cell? ⟨g1, 0, none⟩ = some (.slice A1 c.tables.length a1) := blk_cell (blk_below BX1.out B9.out) 0
    have k3 : w9.cell? ⟨g1, 1, none⟩ = some (.slice A2 c.procs.length a2) := blk_cell (blk_below BX1.out B9.out) 1
    go_wp2_with fail
    clear k0 k1 k2 k3
    refine (same_any c O1 o1 O2 o2 c A1 a1 A2 a2 w9 (Kd.C_below CO1.out B9.out) (Kd.C_below CO2.out B9.out) (Kd.C_below CA1.out B9.out) (Kd.C_below CA2.out B9.out)).mono ?_
    intro e w10 hq
    rw [decide_eq_true rfl] at hq
    obtain ⟨rfl, hb10⟩ := hq
    have hend : Below W.heap.size W w10 := below_then HBW.out HBW.out.size (below_then B9.out B9.out.size hb10)
    clear hes B9 hb10
    go_wp2_with fail
    go_ret
    exact ⟨rfl, hend⟩
end Go.Proofs.Ytcmgdieeclninaa
