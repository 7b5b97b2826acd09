/- Layer 8: the walk of Same. -/
import Derived.Test.YtcmgdieeclninaaD16
import Derived.StillTailTactics
set_option linter.unusedVariables false
set_option linter.unusedSimpArgs false
namespace Go.Proofs.Ytcmgdieeclninaa
open Go.RowKit Go.Proofs.YtcmgdieeclninaaW.PrintWords
set_option maxRecDepth 100000 in
set_option maxHeartbeats 4000000 in
theorem same_any (a : Cat) (A1 : Option Addr) (c1 : Nat) (A2 : Option Addr) (c2 : Nat) (b : Cat) (B1 : Option Addr) (d1 : Nat) (B2 : Option Addr) (d2 : Nat) (w : World)
    (hA1 : kTab.C w A1 a.tables.length a.tables) (hA2 : kPrc.C w A2 a.procs.length a.procs)
    (hB1 : kTab.C w B1 b.tables.length b.tables) (hB2 : kPrc.C w B2 b.procs.length b.procs) :
    Calls Try.prog 18 #[.agg #[.slice A1 a.tables.length c1, .slice A2 a.procs.length c2], .agg #[.slice B1 b.tables.length d1, .slice B2 b.procs.length d2]] w fun e w' => e = .returned (.bool (decide (a = b))) ∧ Below w.heap.size w w' := by
  have hn1 := hA1.2.1
  have hn2 := hA2.2.1
  obtain ⟨W, hW⟩ : ∃ W, W = (w.alloc (catBox a.tables.length a.procs.length A1 c1 A2 c2)).alloc (catBox b.tables.length b.procs.length B1 d1 B2 d2) := ⟨_, rfl⟩
  have hb : Below w.heap.size w W := by rw [hW]; exact below_alloc (below_alloc (Below.refl _ _) _) _
  have hg1 : W.heap[w.heap.size]? = some (catBox a.tables.length a.procs.length A1 c1 A2 c2) := by rw [hW]; exact blk_alloc' (blk_alloc w _)
  have hg2 : W.heap[w.heap.size + 1]? = some (catBox b.tables.length b.procs.length B1 d1 B2 d2) := by rw [hW]; have := blk_alloc (w.alloc (catBox a.tables.length a.procs.length A1 c1 A2 c2)) (catBox b.tables.length b.procs.length B1 d1 B2 d2); rw [show (w.alloc (catBox a.tables.length a.procs.length A1 c1 A2 c2)).heap.size = w.heap.size + 1 from by simp] at this; exact this
  have HG1 := Aside0.mk hg1
  have HG2 := Aside0.mk hg2
  have HB := Aside0.mk hb
  have HA1 := Aside0.mk (Kd.C_below hA1 hb)
  have HA2 := Aside0.mk (Kd.C_below hA2 hb)
  have HB1 := Aside0.mk (Kd.C_below hB1 hb)
  have HB2 := Aside0.mk (Kd.C_below hB2 hb)
  have hw0 : (w.alloc (Obj.cells #[.slice A1 a.tables.length c1, .slice A2 a.procs.length c2] 25)).alloc (Obj.cells #[.slice B1 b.tables.length d1, .slice B2 b.procs.length d2] 25) = W := by rw [hW]; rfl
  have HW0 := Aside0.mk hw0
  clear hA1 hA2 hB1 hB2 hb hg1 hg2 hW hw0
  by_cases e4 : a.tables.length = b.tables.length
  · have t3 := int_beq_true (congrArg Int.ofNat e4)
    have t3' := int_bne_false (congrArg Int.ofNat e4)
    simp only [Int.ofNat_eq_natCast] at t3 t3'
    have E4 := Lib.hid e4
    clear e4
    by_cases e5 : a.procs.length = b.procs.length
    · have t4 := int_beq_true (congrArg Int.ofNat e5)
      have t4' := int_bne_false (congrArg Int.ofNat e5)
      simp only [Int.ofNat_eq_natCast] at t4 t4'
      have E5 := Lib.hid e5
      clear e5
      go_enter Try.func18, Try.ntmps18
      go_wp2_with fail
      rw [HW0.out]
      clear t3 t3' t4 t4'
      clear HW0
      obtain ⟨g, hg⟩ : ∃ g, g = w.heap.size := ⟨_, rfl⟩
      rw [← hg] at HG1 HG2
      rw [← hg]
      clear hg
      go_loopg [5] a.tables.length (fun gn i wr => ∃ k : Nat, i = .int .i64 k ∧ Aside0 (k + gn = a.tables.length ∧ a.tables.take k = b.tables.take k) ∧ Aside0 (Below W.heap.size W wr))
      case atStart => exact ⟨0, rfl, ⟨by omega, rfl⟩, ⟨Below.refl _ _⟩⟩
      case round =>
        obtain ⟨k, rfl, ⟨hg, hall⟩, hU⟩ := hrel
        have HALL := Lib.hid hall
        have HG := Lib.hid hg
        clear hall hg
        have a1 : wr.cell? ⟨g, 0, none⟩ = some (.slice A1 a.tables.length c1) := blk_cell (blk_below HG1.out hU.out) 0
        have b1 : wr.cell? ⟨g + 1, 0, none⟩ = some (.slice B1 b.tables.length d1) := blk_cell (blk_below HG2.out hU.out) 0
        by_cases hk : k < a.tables.length
        · obtain ⟨ad, x, X1, x1, X2, x2, X3, x3, rfl, hx, hm, ht, q0, q1, q2, q3, q4, hc1, hc2, hc3⟩ := tab_at HA1.out hU.out k hk
          obtain ⟨bd, y, Y1, y1, Y2, y2, Y3, y3, rfl, hy, hm2, ht2, r0, r1, r2, r3, r4, hd1, hd2, hd3⟩ := tab_at HB1.out hU.out k (by rw [← E4.out]; exact hk)
          have HT := Lib.hid ht
          have HT2 := Lib.hid ht2
          have HH := Aside0.mk (And.intro (And.intro (Kd.C_below hc1.2 hU.out) (And.intro (Kd.C_below hc2.2 hU.out) (Kd.C_below hc3.2 hU.out))) (And.intro (Kd.C_below hd1.2 hU.out) (And.intro (Kd.C_below hd2.2 hU.out) (Kd.C_below hd3.2 hU.out))))
          clear hx hm ht hy hm2 ht2 hc1 hc2 hc3 hd1 hd2 hd3
          have p0 : (0 : Int) ≤ k := by omega
          have p1 : (k : Int) < a.tables.length := by omega
          have p2 : (k : Int) < b.tables.length := by rw [← E4.out]; omega
          go_wp2_with fail
          go_still_tail 10, (by kernel_rfl)
          obtain ⟨w2, hw2⟩ : ∃ w2, w2 = wr.drew := ⟨_, rfl⟩
          change wpList _ _ _ _ _ wr.drew
          rw [← hw2]
          have hb2 : Below wr.heap.size wr w2 := by rw [hw2]; exact below_drew (Below.refl _ _)
          have hU2 := Aside0.mk (below_then hU.out hU.out.size hb2)
          have HH2 := Aside0.mk hb2
          clear hb2 hw2 q0 q1 q2 q3 q4 r0 r1 r2 r3 r4 a1 b1 hU
          go_wp2_with fail
          refine (sameTab_any x X1 x1 X2 x2 X3 x3 y Y1 y1 Y2 y2 Y3 y3 w2 (Kd.C_below HH.out.1.1 HH2.out) (Kd.C_below HH.out.1.2.1 HH2.out) (Kd.C_below HH.out.1.2.2 HH2.out) (Kd.C_below HH.out.2.1 HH2.out) (Kd.C_below HH.out.2.2.1 HH2.out) (Kd.C_below HH.out.2.2.2 HH2.out)).mono ?_
          rintro e w3 ⟨rfl, hb3⟩
          have hU3 := Aside0.mk (below_then hU2.out hU2.out.size hb3)
          clear hb3 hU2 HH HH2
          by_cases hE : x = y
          · rw [decide_eq_true hE]
            have HE := Lib.hid hE
            clear hE
            go_wp2_with fail
            go_roundg (a.tables.length - (k + 1))
            case measure => have := HG.out; omega
            case rel => exact ⟨k + 1, by go_num, ⟨by have := HG.out; omega, take_step HALL.out HT.out HT2.out HE.out⟩, hU3⟩
          · rw [decide_eq_false hE]
            have HE := Lib.hid hE
            clear hE
            go_wp2_with fail
            go_ret
            exact ⟨ret_bool (decide_eq_false (fun h => take_ne HT.out HT2.out HE.out (by rw [h]))).symm, below_then HB.out HB.out.size hU3.out⟩
        · have hcs : a.tables = b.tables := take_all HALL.out (by omega) (by rw [← E4.out]; omega)
          have HCS := Lib.hid hcs
          clear hcs
          go_wp2_with fail
          clear a1 b1
          go_loopg [7] a.procs.length (fun gn i wr => ∃ k : Nat, i = .int .i64 k ∧ Aside0 (k + gn = a.procs.length ∧ a.procs.take k = b.procs.take k) ∧ Aside0 (Below W.heap.size W wr))
          case atStart => exact ⟨0, rfl, ⟨by omega, rfl⟩, hU⟩
          case round =>
            obtain ⟨k, rfl, ⟨hg, hall⟩, hU⟩ := hrel
            have HALL := Lib.hid hall
            have HG := Lib.hid hg
            clear hall hg
            have a1 : wr.cell? ⟨g, 1, none⟩ = some (.slice A2 a.procs.length c2) := blk_cell (blk_below HG1.out hU.out) 1
            have b1 : wr.cell? ⟨g + 1, 1, none⟩ = some (.slice B2 b.procs.length d2) := blk_cell (blk_below HG2.out hU.out) 1
            by_cases hk : k < a.procs.length
            · obtain ⟨ad, x, X1, x1, X2, x2, rfl, hx, hm, ht, q0, q1, q2, q3, q4, hc1, hc2⟩ := prc_at HA2.out hU.out k hk
              obtain ⟨bd, y, Y1, y1, Y2, y2, rfl, hy, hm2, ht2, r0, r1, r2, r3, r4, hd1, hd2⟩ := prc_at HB2.out hU.out k (by rw [← E5.out]; exact hk)
              have HT := Lib.hid ht
              have HT2 := Lib.hid ht2
              have HH := Aside0.mk (And.intro (And.intro (Kd.C_below hc1.2 hU.out) (Kd.C_below hc2.2 hU.out)) (And.intro (Kd.C_below hd1.2 hU.out) (Kd.C_below hd2.2 hU.out)))
              clear hx hm ht hy hm2 ht2 hc1 hc2 hd1 hd2
              have p0 : (0 : Int) ≤ k := by omega
              have p1 : (k : Int) < a.procs.length := by omega
              have p2 : (k : Int) < b.procs.length := by rw [← E5.out]; omega
              go_wp2_with fail
              go_still_tail 10, (by kernel_rfl)
              obtain ⟨w2, hw2⟩ : ∃ w2, w2 = wr.drew := ⟨_, rfl⟩
              change wpList _ _ _ _ _ wr.drew
              rw [← hw2]
              have hb2 : Below wr.heap.size wr w2 := by rw [hw2]; exact below_drew (Below.refl _ _)
              have hU2 := Aside0.mk (below_then hU.out hU.out.size hb2)
              have HH2 := Aside0.mk hb2
              clear hb2 hw2 q0 q1 q2 q3 q4 r0 r1 r2 r3 r4 a1 b1 hU
              go_wp2_with fail
              refine (samePrc_any x X1 x1 X2 x2 y Y1 y1 Y2 y2 w2 (Kd.C_below HH.out.1.1 HH2.out) (Kd.C_below HH.out.1.2 HH2.out) (Kd.C_below HH.out.2.1 HH2.out) (Kd.C_below HH.out.2.2 HH2.out)).mono ?_
              rintro e w3 ⟨rfl, hb3⟩
              have hU3 := Aside0.mk (below_then hU2.out hU2.out.size hb3)
              clear hb3 hU2 HH HH2
              by_cases hE : x = y
              · rw [decide_eq_true hE]
                have HE := Lib.hid hE
                clear hE
                go_wp2_with fail
                go_roundg (a.procs.length - (k + 1))
                case measure => have := HG.out; omega
                case rel => exact ⟨k + 1, by go_num, ⟨by have := HG.out; omega, take_step HALL.out HT.out HT2.out HE.out⟩, hU3⟩
              · rw [decide_eq_false hE]
                have HE := Lib.hid hE
                clear hE
                go_wp2_with fail
                go_ret
                exact ⟨ret_bool (decide_eq_false (fun h => take_ne HT.out HT2.out HE.out (by rw [h]))).symm, below_then HB.out HB.out.size hU3.out⟩
            · go_wp2_with fail
              go_ret
              exact ⟨ret_bool (decide_eq_true (Cat.ext' HCS.out (take_all HALL.out (by omega) (by rw [← E5.out]; omega)))).symm, below_then HB.out HB.out.size hU.out⟩
    · have u1 := int_beq_false (fun h => e5 (Int.ofNat.inj h))
      have u2 := int_bne_true (fun h => e5 (Int.ofNat.inj h))
      simp only [Int.ofNat_eq_natCast] at u1 u2
      have E5 := Lib.hid e5
      clear e5
      go_enter Try.func18, Try.ntmps18
      go_wp2_with fail
      go_ret
      exact ⟨ret_bool (decide_eq_false (fun h => E5.out (by rw [h]))).symm, by first | rw [HW0.out]; exact HB.out | exact HB.out⟩
  · have u1 := int_beq_false (fun h => e4 (Int.ofNat.inj h))
    have u2 := int_bne_true (fun h => e4 (Int.ofNat.inj h))
    simp only [Int.ofNat_eq_natCast] at u1 u2
    have E4 := Lib.hid e4
    clear e4
    go_enter Try.func18, Try.ntmps18
    go_wp2_with fail
    go_ret
    exact ⟨ret_bool (decide_eq_false (fun h => E4.out (by rw [h]))).symm, by first | rw [HW0.out]; exact HB.out | exact HB.out⟩
end Go.Proofs.Ytcmgdieeclninaa
