/- Layer 08: D63 the law Back -/
import Derived.Test.YtcmgdieeclninaaD49
import Derived.Test.YtcmgdieeclninaaD54
set_option linter.unusedVariables false
set_option linter.unusedSimpArgs false
namespace Go.Proofs.Ytcmgdieeclninaa
open Go.RowKit Go.Proofs.YtcmgdieeclninaaW.PrintWords
theorem enc_cases (c : Cat) : (RightCat c ∧ (encO c).2 = 0 ∧ bytesOf (encO c).1 = wCat c ∧ (encO c).1.size ≤ 200000) ∨ (¬ RightCat c ∧ (encO c).2 = 80) := by
  by_cases h : RightCat c
  · have h2 : bytesOf (encO c).1 = wCat c := by unfold encO; rw [if_pos h]; exact nums_back _ (inb_Cat c)
    exact .inl ⟨h, by unfold encO; rw [if_pos h], h2, by rw [← bytesOf_length, h2]; exact wCat_len h⟩
  · exact .inr ⟨h, by unfold encO; rw [if_neg h]⟩
set_option maxRecDepth 100000 in
set_option maxHeartbeats 8000000 in
theorem back_any (cs0 : Array Value) (c : Cat) (cs1 : Array Value) (d : Cat) (W : World) (hK0 : kCat.K W c cs0.toList) (hZ0 : SzCat c ∧ BdCat c) (hK1 : kCat.K W d cs1.toList) (hZ1 : SzCat d ∧ BdCat d) :
    Calls Try.prog 7 #[.agg cs0, .agg cs1] W fun e W' => e = .returned (.bool true) ∧ Below W.heap.size W W' := by
  obtain ⟨A1, a1, A2, a2, rfl, ⟨hA1, lA1⟩, hA2, lA2⟩ := kCat_open hK0
  obtain ⟨D1, d1, D2, d2, rfl, ⟨hD1, lD1⟩, hD2, lD2⟩ := kCat_open hK1
  clear hK0 hK1
  obtain ⟨w1, hw1, b1, s1, hb1⟩ := grow (W := W) rfl #[.slice A1 c.tables.length a1, .slice A2 c.procs.length a2] 25
  obtain ⟨w2, hw2, b2, s2, hb2⟩ := grow s1 #[.slice D1 d.tables.length d1, .slice D2 d.procs.length d2] 25
  obtain ⟨g1, hg1⟩ : ∃ g, g = W.heap.size := ⟨_, rfl⟩
  obtain ⟨g2, hg2⟩ : ∃ g, g = W.heap.size + 1 := ⟨_, rfl⟩
  have BX1 := Aside0.mk (blk_below b1 hb2)
  have BX2 := Aside0.mk b2
  rw [← hg1] at BX1
  rw [← hg2] at BX2
  have hb12 := below_then hb1 hb1.size hb2
  have HB2 := Aside0.mk hb12
  have CA1 := Aside0.mk (Kd.C_below hA1 hb12)
  have CA2 := Aside0.mk (Kd.C_below hA2 hb12)
  have CD1 := Aside0.mk (Kd.C_below hD1 hb12)
  have CD2 := Aside0.mk (Kd.C_below hD2 hb12)
  have Z0 := Aside0.mk hZ0
  have Z1 := Aside0.mk hZ1
  clear hA1 hA2 hD1 hD2 hZ0 hZ1 hb1 hb2 hb12 b1 b2 s1 s2
  go_enter Try.func7, Try.ntmps7
  go_wp2_with fail
  rw [← hw1, ← hw2, ← hg2, ← hg1]
  clear hw1 hw2 hg1 hg2
  refine (weighs_any c A1 a1 A2 a2 w2 CA1.out CA2.out Z0.out.2 Z0.out.1).mono ?_
  rintro e w3 ⟨n, rfl, hb3⟩
  have B3 := Aside0.mk hb3
  clear hb3
  have k0 : w3.cell? ⟨g2, 0, none⟩ = some (.slice D1 d.tables.length d1) := blk_cell (blk_below BX2.out B3.out) 0
  have k1 : w3.cell? ⟨g2, 1, none⟩ = some (.slice D2 d.procs.length d2) := blk_cell (blk_below BX2.out B3.out) 1
  go_wp2_with fail
  clear k0 k1
  refine (weighs_any d D1 d1 D2 d2 w3 (Kd.C_below CD1.out B3.out) (Kd.C_below CD2.out B3.out) Z1.out.2 Z1.out.1).mono ?_
  rintro e w4 ⟨m, rfl, hb4⟩
  have B4 := Aside0.mk (below_then B3.out B3.out.size hb4)
  clear hb4 B3
  by_cases hbig : 2147483647 < n ∨ 2147483647 < m
  · have hend : Below W.heap.size W w4 := below_then HB2.out HB2.out.size B4.out
    by_cases h1 : 2147483647 < n
    · go_wp2_with fail
      go_ret
      exact ⟨rfl, hend⟩
    · have h2 : 2147483647 < m := hbig.resolve_left h1
      go_wp2_with fail
      go_ret
      exact ⟨rfl, hend⟩
  · have h1 : ¬ 2147483647 < n := fun h => hbig (.inl h)
    have h2 : ¬ 2147483647 < m := fun h => hbig (.inr h)
    clear hbig
    go_wp2_with fail
    refine (awake_any w4).mono ?_
    rintro e w5 ⟨rfl, hb5⟩
    have B5 := Aside0.mk (below_then B4.out B4.out.size hb5)
    clear hb5 B4
    have k0 : w5.cell? ⟨g1, 0, none⟩ = some (.slice A1 c.tables.length a1) := blk_cell (blk_below BX1.out B5.out) 0
    have k1 : w5.cell? ⟨g1, 1, none⟩ = some (.slice A2 c.procs.length a2) := blk_cell (blk_below BX1.out B5.out) 1
    go_wp2_with fail
    clear k0 k1
    refine (rightRef_any c A1 a1 A2 a2 w5 (Kd.C_below CA1.out B5.out) (Kd.C_below CA2.out B5.out) Z0.out.2).mono ?_
    rintro e w6 ⟨rfl, hb6⟩
    have B6 := Aside0.mk (below_then B5.out B5.out.size hb6)
    clear hb6 B5
    have k0 : w6.cell? ⟨g2, 0, none⟩ = some (.slice D1 d.tables.length d1) := blk_cell (blk_below BX2.out B6.out) 0
    have k1 : w6.cell? ⟨g2, 1, none⟩ = some (.slice D2 d.procs.length d2) := blk_cell (blk_below BX2.out B6.out) 1
    go_wp2_with fail
    clear k0 k1
    refine (rightRef_any d D1 d1 D2 d2 w6 (Kd.C_below CD1.out B6.out) (Kd.C_below CD2.out B6.out) Z1.out.2).mono ?_
    rintro e w7 ⟨rfl, hb7⟩
    have B7 := Aside0.mk (below_then B6.out B6.out.size hb7)
    clear hb7 B6
    have k0 : w7.cell? ⟨g1, 0, none⟩ = some (.slice A1 c.tables.length a1) := blk_cell (blk_below BX1.out B7.out) 0
    have k1 : w7.cell? ⟨g1, 1, none⟩ = some (.slice A2 c.procs.length a2) := blk_cell (blk_below BX1.out B7.out) 1
    go_wp2_with fail
    clear k0 k1
    have hcs := enc_cases c
    have hds := enc_cases d
    obtain ⟨⟨es, ee⟩, hes⟩ : ∃ r, r = encO c := ⟨_, rfl⟩
    obtain ⟨⟨fs, fe⟩, hfs⟩ : ∃ r, r = encO d := ⟨_, rfl⟩
    rw [← hes] at hcs
    rw [← hfs] at hds
    dsimp only at hcs hds
    have HES := Aside0.mk hes
    have HFS := Aside0.mk hfs
    have HCS := Lib.hid hcs
    have HDS := Lib.hid hds
    clear hes hfs hcs hds
    refine (encode_any c A1 a1 A2 a2 w7 (Kd.C_below CA1.out B7.out) (Kd.C_below CA2.out B7.out)).mono ?_
    intro e w8 hq
    rw [← HES.out] at hq
    dsimp only at hq
    obtain ⟨rfl, hb8⟩ := hq
    have B8 := Aside0.mk (below_then B7.out B7.out.size hb8)
    clear hb8 B7
    have k0 : w8.cell? ⟨g2, 0, none⟩ = some (.slice D1 d.tables.length d1) := blk_cell (blk_below BX2.out B8.out) 0
    have k1 : w8.cell? ⟨g2, 1, none⟩ = some (.slice D2 d.procs.length d2) := blk_cell (blk_below BX2.out B8.out) 1
    go_wp2_with fail
    clear k0 k1
    refine (encode_any d D1 d1 D2 d2 w8 (Kd.C_below CD1.out B8.out) (Kd.C_below CD2.out B8.out)).mono ?_
    intro e w9 hq
    rw [← HFS.out] at hq
    dsimp only at hq
    obtain ⟨rfl, hb9⟩ := hq
    have B9 := Aside0.mk (below_then B8.out B8.out.size hb9)
    have hend : Below W.heap.size W w9 := below_then HB2.out HB2.out.size B9.out
    clear hb9 B8
    rcases HCS.out with ⟨hc, rfl, hcb, hcl⟩ | ⟨hc, rfl⟩
    · rw [decide_eq_true hc]
      rcases HDS.out with ⟨hd, rfl, hdb, hdl⟩ | ⟨hd, rfl⟩
      · rw [decide_eq_true hd]
        clear HES HFS HCS HDS
        have HCB := Lib.hid (And.intro hc hcb)
        have HDB := Lib.hid (And.intro hd hdb)
        clear hcb hdb hc hd
        go_wp2_with fail
        refine (decode_any es w9 (by omega)).mono ?_
        rintro e w10 ⟨r, hr, hco⟩
        obtain rfl := hr.1 c HCB.out.1 HCB.out.2
        have heq : es = fs ↔ c = d := by
          constructor
          · rintro rfl
            have h3 := hr.1 d HDB.out.1 HDB.out.2
            injection h3
          · rintro rfl
            exact bytesOf_inj (by rw [HCB.out.2, HDB.out.2])
        have HEQ := Lib.hid heq
        have hcoR := hco.open_
        dsimp only at hcoR
        obtain ⟨V1, v1, V2, v2, rfl, hV1, hV2, hb10⟩ := hcoR
        obtain ⟨w11, hw11, bb, s11, hb11⟩ := grow (W := w10) rfl #[.slice V1 c.tables.length v1, .slice V2 c.procs.length v2] 25
        obtain ⟨g3, hg3⟩ : ∃ g, g = w10.heap.size := ⟨_, rfl⟩
        rw [← hg3] at bb s11
        have B11 := Aside0.mk (below_then B9.out B9.out.size (below_then hb10 hb10.size hb11))
        have CV1 := Aside0.mk (Kd.C_below hV1 hb11)
        have CV2 := Aside0.mk (Kd.C_below hV2 hb11)
        have k0 : w11.cell? ⟨g3, 0, none⟩ = some (.slice V1 c.tables.length v1) := blk_cell bb 0
        have k1 : w11.cell? ⟨g3, 1, none⟩ = some (.slice V2 c.procs.length v2) := blk_cell bb 1
        have k2 : w11.cell? ⟨g1, 0, none⟩ = some (.slice A1 c.tables.length a1) := blk_cell (blk_below BX1.out B11.out) 0
        have k3 : w11.cell? ⟨g1, 1, none⟩ = some (.slice A2 c.procs.length a2) := blk_cell (blk_below BX1.out B11.out) 1
        clear hr heq hco hV1 hV2 hb10 hb11 bb s11 hend B9
        rw [hw11] at k0 k1 k2 k3
        rw [hg3] at k0 k1
        go_wp2_with fail
        rw [← hw11, ← hg3]
        clear hw11 hg3 k0 k1 k2 k3
        refine (same_any c V1 v1 V2 v2 c A1 a1 A2 a2 w11 CV1.out CV2.out (Kd.C_below CA1.out B11.out) (Kd.C_below CA2.out B11.out)).mono ?_
        intro e w12 hq
        rw [decide_eq_true rfl] at hq
        obtain ⟨rfl, hb12⟩ := hq
        have B12 := Aside0.mk (below_then B11.out B11.out.size hb12)
        clear hb12 B11 CV1 CV2
        have k0 : w12.cell? ⟨g1, 0, none⟩ = some (.slice A1 c.tables.length a1) := blk_cell (blk_below BX1.out B12.out) 0
        have k1 : w12.cell? ⟨g1, 1, none⟩ = some (.slice A2 c.procs.length a2) := blk_cell (blk_below BX1.out B12.out) 1
        have k2 : w12.cell? ⟨g2, 0, none⟩ = some (.slice D1 d.tables.length d1) := blk_cell (blk_below BX2.out B12.out) 0
        have k3 : w12.cell? ⟨g2, 1, none⟩ = some (.slice D2 d.procs.length d2) := blk_cell (blk_below BX2.out B12.out) 1
        go_wp2_with fail
        clear k0 k1 k2 k3
        refine (same_any c A1 a1 A2 a2 d D1 d1 D2 d2 w12 (Kd.C_below CA1.out B12.out) (Kd.C_below CA2.out B12.out) (Kd.C_below CD1.out B12.out) (Kd.C_below CD2.out B12.out)).mono ?_
        rintro e w13 ⟨rfl, hb13⟩
        have hend : Below W.heap.size W w13 := below_then HB2.out HB2.out.size (below_then B12.out B12.out.size hb13)
        clear hb13 B12
        by_cases hcd : c = d
        · have p3 : (es.toList == fs.toList) = true := str_eq_true (HEQ.out.2 hcd)
          rw [decide_eq_true hcd]
          clear HEQ HCB HDB
          go_wp2_with fail
          go_ret
          exact ⟨rfl, hend⟩
        · have p3 : (es.toList == fs.toList) = false := str_eq_false (fun h => hcd (HEQ.out.1 h))
          rw [decide_eq_false hcd]
          clear HEQ HCB HDB
          go_wp2_with fail
          go_ret
          exact ⟨rfl, hend⟩
      · rw [decide_eq_false hd]
        clear HES HFS HCS HDS hcb
        go_wp2_with fail
        go_ret
        exact ⟨rfl, hend⟩
    · rw [decide_eq_false hc]
      rcases HDS.out with ⟨hd, rfl, hdb, hdl⟩ | ⟨hd, rfl⟩
      · rw [decide_eq_true hd]
        clear HES HFS HCS HDS hdb
        go_wp2_with fail
        go_ret
        exact ⟨rfl, hend⟩
      · rw [decide_eq_false hd]
        clear HES HFS HCS HDS
        go_wp2_with fail
        go_ret
        exact ⟨rfl, hend⟩
end Go.Proofs.Ytcmgdieeclninaa
