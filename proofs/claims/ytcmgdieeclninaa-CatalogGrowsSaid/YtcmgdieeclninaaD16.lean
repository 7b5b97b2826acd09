/- Layer 8: the walk of SameProc. -/
import Derived.Test.YtcmgdieeclninaaD15
set_option linter.unusedVariables false
set_option linter.unusedSimpArgs false
namespace Go.Proofs.Ytcmgdieeclninaa
open Go.RowKit Go.Proofs.YtcmgdieeclninaaW.PrintWords
theorem str_bne_false {a b : ByteArray} (h : a = b) : (a.toList != b.toList) = false := by rw [bne, str_eq_true h]; rfl
theorem str_bne_true {a b : ByteArray} (h : ¬ a = b) : (a.toList != b.toList) = true := by rw [bne, str_eq_false h]; rfl
theorem int_beq_true {a b : Int} (h : a = b) : (a == b) = true := by rw [beq_iff_eq]; exact h
theorem int_beq_false {a b : Int} (h : ¬ a = b) : (a == b) = false := by rw [beq_eq_false_iff_ne]; exact h
theorem int_bne_false {a b : Int} (h : a = b) : (a != b) = false := by rw [bne_eq_false_iff_eq]; exact h
theorem int_bne_true {a b : Int} (h : ¬ a = b) : (a != b) = true := by rw [bne_iff_ne]; exact h
set_option maxRecDepth 100000 in
set_option maxHeartbeats 4000000 in
theorem samePrc_any (a : Prc) (A1 : Option Addr) (c1 : Nat) (A2 : Option Addr) (c2 : Nat) (b : Prc) (B1 : Option Addr) (d1 : Nat) (B2 : Option Addr) (d2 : Nat) (w : World)
    (hA1 : kPrm.C w A1 a.params.length a.params) (hA2 : Kd.string.C w A2 a.body.length a.body)
    (hB1 : kPrm.C w B1 b.params.length b.params) (hB2 : Kd.string.C w B2 b.body.length b.body) :
    Calls Try.prog 21 #[.agg #[.string a.name, .slice A1 a.params.length c1, .slice A2 a.body.length c2, .int .i64 a.rows, .int .i64 a.bytes], .agg #[.string b.name, .slice B1 b.params.length d1, .slice B2 b.body.length d2, .int .i64 b.rows, .int .i64 b.bytes]] w fun e w' => e = .returned (.bool (decide (a = b))) ∧ Below w.heap.size w w' := by
  have hn1 := hA1.2.1
  have hn2 := hA2.2.1
  obtain ⟨W, hW⟩ : ∃ W, W = (w.alloc (prcBox a A1 c1 A2 c2)).alloc (prcBox b B1 d1 B2 d2) := ⟨_, rfl⟩
  have hb : Below w.heap.size w W := by rw [hW]; exact below_alloc (below_alloc (Below.refl _ _) _) _
  have hg1 : W.heap[w.heap.size]? = some (prcBox a A1 c1 A2 c2) := by rw [hW]; exact blk_alloc' (blk_alloc w _)
  have hg2 : W.heap[w.heap.size + 1]? = some (prcBox b B1 d1 B2 d2) := by rw [hW]; have := blk_alloc (w.alloc (prcBox a A1 c1 A2 c2)) (prcBox b B1 d1 B2 d2); rw [show (w.alloc (prcBox a A1 c1 A2 c2)).heap.size = w.heap.size + 1 from by simp] at this; exact this
  have HG1 := Aside0.mk hg1
  have HG2 := Aside0.mk hg2
  have HB := Aside0.mk hb
  have HA1 := Aside0.mk (Kd.C_below hA1 hb)
  have HA2 := Aside0.mk (Kd.C_below hA2 hb)
  have HB1 := Aside0.mk (Kd.C_below hB1 hb)
  have HB2 := Aside0.mk (Kd.C_below hB2 hb)
  have hw0 : (w.alloc (Obj.cells #[.string a.name, .slice A1 a.params.length c1, .slice A2 a.body.length c2, .int .i64 a.rows, .int .i64 a.bytes] 34)).alloc (Obj.cells #[.string b.name, .slice B1 b.params.length d1, .slice B2 b.body.length d2, .int .i64 b.rows, .int .i64 b.bytes] 34) = W := by rw [hW]; rfl
  have HW0 := Aside0.mk hw0
  clear hA1 hA2 hB1 hB2 hb hg1 hg2 hW hw0
  by_cases e2 : a.name = b.name
  · have t1 := str_eq_true e2
    have t1' := str_bne_false e2
    have E2 := Lib.hid e2
    clear e2
    by_cases e3 : a.rows = b.rows
    · have t2 := int_beq_true e3
      have t2' := int_bne_false e3
      have E3 := Lib.hid e3
      clear e3
      by_cases e6 : a.bytes = b.bytes
      · have t6 := int_beq_true e6
        have t6' := int_bne_false e6
        have E6 := Lib.hid e6
        clear e6
        by_cases e4 : a.params.length = b.params.length
        · have t3 := int_beq_true (congrArg Int.ofNat e4)
          have t3' := int_bne_false (congrArg Int.ofNat e4)
          simp only [Int.ofNat_eq_natCast] at t3 t3'
          have E4 := Lib.hid e4
          clear e4
          by_cases e5 : a.body.length = b.body.length
          · have t4 := int_beq_true (congrArg Int.ofNat e5)
            have t4' := int_bne_false (congrArg Int.ofNat e5)
            simp only [Int.ofNat_eq_natCast] at t4 t4'
            have E5 := Lib.hid e5
            clear e5
            go_enter Try.func21, Try.ntmps21
            go_wp2_with fail
            rw [HW0.out]
            clear t1 t1' t2 t2' t3 t3' t4 t4' t6 t6'
            clear HW0
            have a1 : W.cell? ⟨w.heap.size, 1, none⟩ = some (.slice A1 a.params.length c1) := blk_cell HG1.out 1
            have a2 : W.cell? ⟨w.heap.size, 2, none⟩ = some (.slice A2 a.body.length c2) := blk_cell HG1.out 2
            have b1 : W.cell? ⟨w.heap.size + 1, 1, none⟩ = some (.slice B1 b.params.length d1) := blk_cell HG2.out 1
            have b2 : W.cell? ⟨w.heap.size + 1, 2, none⟩ = some (.slice B2 b.body.length d2) := blk_cell HG2.out 2
            clear HG1 HG2
            obtain ⟨g, hg⟩ : ∃ g, g = w.heap.size := ⟨_, rfl⟩
            rw [← hg] at a1 a2 b1 b2
            rw [← hg]
            clear hg
            go_loopg [5] a.params.length (fun gn i wr => ∃ k : Nat, i = .int .i64 k ∧ Aside0 (k + gn = a.params.length ∧ a.params.take k = b.params.take k) ∧ Drawn0 W wr)
            case atStart => exact ⟨0, rfl, ⟨by omega, rfl⟩, Drawn0.refl _⟩
            case round =>
              obtain ⟨k, rfl, ⟨hg, hall⟩, ⟨nq, rfl⟩⟩ := hrel
              have HALL := Lib.hid hall
              have HG := Lib.hid hg
              clear hall hg
              by_cases hk : k < a.params.length
              · obtain ⟨ad, x, rfl, hx, hm, ht, q0, q1⟩ := prm_at HA1.out (Below.refl _ _) k hk
                obtain ⟨bd, y, rfl, hy, hm2, ht2, r0, r1⟩ := prm_at HB1.out (Below.refl _ _) k (by rw [← E4.out]; exact hk)
                have HT := Lib.hid ht
                have HT2 := Lib.hid ht2
                clear hx hm ht hy hm2 ht2
                have p0 : (0 : Int) ≤ k := by omega
                have p1 : (k : Int) < a.params.length := by omega
                have p2 : (k : Int) < b.params.length := by rw [← E4.out]; omega
                have hgd := eqg66
                by_cases hE : x = y
                · have hq := eq66 x y true (decide_eq_true hE)
                  have HE := Lib.hid hE
                  clear hE
                  go_wp2_with fail
                  go_quiet (fail)
                  go_wp2_with fail
                  go_roundg (a.params.length - (k + 1))
                  case measure => have := HG.out; omega
                  case rel => exact ⟨k + 1, by go_num, ⟨by have := HG.out; omega, take_step HALL.out HT.out HT2.out HE.out⟩, ⟨⟨_, rfl⟩⟩⟩
                · have hq := eq66 x y false (decide_eq_false hE)
                  have HE := Lib.hid hE
                  clear hE
                  go_wp2_with fail
                  go_quiet (fail)
                  go_wp2_with fail
                  go_ret
                  exact ⟨ret_bool (decide_eq_false (fun h => take_ne HT.out HT2.out HE.out (by rw [h]))).symm, pw_below_drewN (pw_below_drewN HB.out _) _⟩
              · have hcs : a.params = b.params := take_all HALL.out (by omega) (by rw [← E4.out]; omega)
                have HCS := Lib.hid hcs
                clear hcs
                go_wp2_with fail
                go_loopg [6] a.body.length (fun gn i wr => ∃ k : Nat, i = .int .i64 k ∧ Aside0 (k + gn = a.body.length ∧ a.body.take k = b.body.take k) ∧ Drawn0 W wr)
                case atStart => exact ⟨0, rfl, ⟨by omega, rfl⟩, ⟨⟨_, rfl⟩⟩⟩
                case round =>
                  obtain ⟨k, rfl, ⟨hg, hall⟩, ⟨nq, rfl⟩⟩ := hrel
                  have HALL := Lib.hid hall
                  have HG := Lib.hid hg
                  clear hall hg
                  by_cases hk : k < a.body.length
                  · obtain ⟨ad, x, rfl, hx, hm, ht, q0⟩ := str_el HA2.out (Below.refl _ _) k hk
                    obtain ⟨bd, y, rfl, hy, hm2, ht2, r0⟩ := str_el HB2.out (Below.refl _ _) k (by rw [← E5.out]; exact hk)
                    have HT := Lib.hid ht
                    have HT2 := Lib.hid ht2
                    clear hx hm ht hy hm2 ht2
                    have p0 : (0 : Int) ≤ k := by omega
                    have p1 : (k : Int) < a.body.length := by omega
                    have p2 : (k : Int) < b.body.length := by rw [← E5.out]; omega
                    by_cases hE : x = y
                    · have t1 := str_eq_true hE
                      have t1' := str_bne_false hE
                      have HE := Lib.hid hE
                      clear hE
                      go_wp2_with fail
                      go_quiet (fail)
                      go_wp2_with fail
                      go_roundg (a.body.length - (k + 1))
                      case measure => have := HG.out; omega
                      case rel => exact ⟨k + 1, by go_num, ⟨by have := HG.out; omega, take_step HALL.out HT.out HT2.out HE.out⟩, ⟨⟨_, rfl⟩⟩⟩
                    · have t1 := str_eq_false hE
                      have t1' := str_bne_true hE
                      have HE := Lib.hid hE
                      clear hE
                      go_wp2_with fail
                      go_quiet (fail)
                      go_wp2_with fail
                      go_ret
                      exact ⟨ret_bool (decide_eq_false (fun h => take_ne HT.out HT2.out HE.out (by rw [h]))).symm, pw_below_drewN (pw_below_drewN HB.out _) _⟩
                  · go_wp2_with fail
                    go_ret
                    exact ⟨ret_bool (decide_eq_true (Prc.ext' E2.out HCS.out (take_all HALL.out (by omega) (by rw [← E5.out]; omega)) E3.out E6.out)).symm, pw_below_drewN HB.out _⟩
          · have u1 := int_beq_false (fun h => e5 (Int.ofNat.inj h))
            have u2 := int_bne_true (fun h => e5 (Int.ofNat.inj h))
            simp only [Int.ofNat_eq_natCast] at u1 u2
            have E5 := Lib.hid e5
            clear e5
            go_enter Try.func21, Try.ntmps21
            go_wp2_with fail
            go_ret
            exact ⟨ret_bool (decide_eq_false (fun h => E5.out (by rw [h]))).symm, by first | rw [HW0.out]; exact HB.out | exact HB.out⟩
        · have u1 := int_beq_false (fun h => e4 (Int.ofNat.inj h))
          have u2 := int_bne_true (fun h => e4 (Int.ofNat.inj h))
          simp only [Int.ofNat_eq_natCast] at u1 u2
          have E4 := Lib.hid e4
          clear e4
          go_enter Try.func21, Try.ntmps21
          go_wp2_with fail
          go_ret
          exact ⟨ret_bool (decide_eq_false (fun h => E4.out (by rw [h]))).symm, by first | rw [HW0.out]; exact HB.out | exact HB.out⟩
      · have u1 := int_beq_false e6
        have u2 := int_bne_true e6
        have E6 := Lib.hid e6
        clear e6
        go_enter Try.func21, Try.ntmps21
        go_wp2_with fail
        go_ret
        exact ⟨ret_bool (decide_eq_false (fun h => E6.out (by rw [h]))).symm, by first | rw [HW0.out]; exact HB.out | exact HB.out⟩
    · have u1 := int_beq_false e3
      have u2 := int_bne_true e3
      have E3 := Lib.hid e3
      clear e3
      go_enter Try.func21, Try.ntmps21
      go_wp2_with fail
      go_ret
      exact ⟨ret_bool (decide_eq_false (fun h => E3.out (by rw [h]))).symm, by first | rw [HW0.out]; exact HB.out | exact HB.out⟩
  · have u1 := str_eq_false e2
    have u2 := str_bne_true e2
    have E2 := Lib.hid e2
    clear e2
    go_enter Try.func21, Try.ntmps21
    go_wp2_with fail
    go_ret
    exact ⟨ret_bool (decide_eq_false (fun h => E2.out (by rw [h]))).symm, by first | rw [HW0.out]; exact HB.out | exact HB.out⟩
end Go.Proofs.Ytcmgdieeclninaa
