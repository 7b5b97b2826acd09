/- Layer 23: the walks of Same, SameAll. -/
import Derived.Test.YtlnneaccgfakeaaK4
import Derived.StillTailTactics
set_option linter.unusedVariables false
set_option linter.unusedSimpArgs false
namespace Go.Proofs.Ytlnneaccgfakeaa
open Go.RowKit Go.Proofs.YtlnneaccgfakeaaW.PrintWords Go.Proofs.YtlnneaccgfakeaaW.PrintLast
abbrev vMsg (m : Msg) (v : Value) : Value := .agg #[.int .i64 m.src, .int .i64 m.dst, .int .i64 m.kind, .int .i64 m.pos, v]
set_option maxRecDepth 100000 in
set_option maxHeartbeats 2000000 in
theorem same_any (a b : Msg) (A B : Option Addr) (d f : Nat) (w : World) (hC : Kd.string.C w A a.body.length a.body) (hD : Kd.string.C w B b.body.length b.body) :
    Calls Try.prog 10 #[.agg #[.int .i64 a.src, .int .i64 a.dst, .int .i64 a.kind, .int .i64 a.pos, .slice A a.body.length d], .agg #[.int .i64 b.src, .int .i64 b.dst, .int .i64 b.kind, .int .i64 b.pos, .slice B b.body.length f]] w fun e w' => e = .returned (.bool (decide (a = b))) ∧ Below w.heap.size w w' := by
  have hn1 := hC.2.1
  have hn2 := hD.2.1
  have HC := Aside0.mk hC
  have HD := Aside0.mk hD
  clear hC hD
  obtain ⟨W0, h0, b0, s0, B0⟩ := grow (W := w) rfl #[.int .i64 a.src, .int .i64 a.dst, .int .i64 a.kind, .int .i64 a.pos, .slice A a.body.length d] 32
  obtain ⟨W1, h1, b1, s1, B1⟩ := grow s0 #[.int .i64 b.src, .int .i64 b.dst, .int .i64 b.kind, .int .i64 b.pos, .slice B b.body.length f] 32
  have HBEL := Aside0.mk (below_then B0 B0.size B1)
  have HB0 := Aside0.mk (blk_below b0 B1)
  have HB1 := Aside0.mk b1
  have HW0 := Lib.hid h0
  have HW1 := Lib.hid h1
  clear h0 h1 b0 b1 s0 s1 B0 B1
  go_enter Try.func10, Try.ntmps10
  by_cases h1 : a.src = b.src
  case neg =>
    have p1 := int_bne_true h1
    go_wp2_with fail
    go_ret
    exact ⟨ret_bool (decide_eq_false (fun h => h1 (by rw [h]))).symm, by rw [← HW0.out, ← HW1.out]; exact HBEL.out⟩
  case pos =>
    have p1 := int_bne_false h1
    have H1 := Lib.hid h1
    clear h1
    by_cases h2 : a.dst = b.dst
    case neg =>
      have p2 := int_bne_true h2
      go_wp2_with fail
      go_ret
      exact ⟨ret_bool (decide_eq_false (fun h => h2 (by rw [h]))).symm, by rw [← HW0.out, ← HW1.out]; exact HBEL.out⟩
    case pos =>
      have p2 := int_bne_false h2
      have H2 := Lib.hid h2
      clear h2
      by_cases h3 : a.kind = b.kind
      case neg =>
        have p3 := int_bne_true h3
        go_wp2_with fail
        go_ret
        exact ⟨ret_bool (decide_eq_false (fun h => h3 (by rw [h]))).symm, by rw [← HW0.out, ← HW1.out]; exact HBEL.out⟩
      case pos =>
        have p3 := int_bne_false h3
        have H3 := Lib.hid h3
        clear h3
        by_cases h4 : a.pos = b.pos
        case neg =>
          have p4 := int_bne_true h4
          go_wp2_with fail
          go_ret
          exact ⟨ret_bool (decide_eq_false (fun h => h4 (by rw [h]))).symm, by rw [← HW0.out, ← HW1.out]; exact HBEL.out⟩
        case pos =>
          have p4 := int_bne_false h4
          have H4 := Lib.hid h4
          clear h4
          by_cases h5 : a.body.length = b.body.length
          case neg =>
            have p5 := int_bne_true (a := (a.body.length : Int)) (b := (b.body.length : Int)) (by omega)
            go_wp2_with fail
            go_ret
            exact ⟨ret_bool (decide_eq_false (fun h => h5 (by rw [h]))).symm, by rw [← HW0.out, ← HW1.out]; exact HBEL.out⟩
          case pos =>
            have p5 := int_bne_false (a := (a.body.length : Int)) (b := (b.body.length : Int)) (by omega)
            have H5 := Lib.hid h5
            clear h5
            go_wp2_with fail
            rw [← HW0.out, ← HW1.out]
            go_loopg [5] a.body.length (fun gn i wr => ∃ k : Nat, i = .int .i64 k ∧ Aside0 (k + gn = a.body.length ∧ a.body.take k = b.body.take k) ∧ Aside0 (Below W1.heap.size W1 wr))
            case atStart => exact ⟨0, rfl, ⟨by omega, rfl⟩, ⟨Below.refl _ _⟩⟩
            case round =>
              obtain ⟨k, rfl, ⟨hgn, htk⟩, hBr⟩ := hrel
              have HGN := Lib.hid hgn
              have HTK := Lib.hid htk
              clear hgn htk
              have q0 : wr.cell? ⟨w.heap.size, 4, none⟩ = some (.slice A a.body.length d) := blk_cell (blk_below HB0.out hBr.out) 4
              have q1 : wr.cell? ⟨w.heap.size + 1, 4, none⟩ = some (.slice B b.body.length f) := blk_cell (blk_below HB1.out hBr.out) 4
              have HBW := Aside0.mk (below_then HBEL.out HBEL.out.size hBr.out)
              by_cases hk : k < a.body.length
              · obtain ⟨ad, x, rfl, hx, hxm, hxt, r0⟩ := str_el HC.out HBW.out k hk
                obtain ⟨bd, y, rfl, hy, hym, hyt, r1⟩ := str_el HD.out HBW.out k (by have := H5.out; omega)
                have HXT := Lib.hid hxt
                have HYT := Lib.hid hyt
                clear hx hxm hxt hy hym hyt
                have t0 : (0 : Int) ≤ k := by omega
                have t1 : (k : Int) < a.body.length := by omega
                have t2 : (k : Int) < b.body.length := by have := H5.out; omega
                by_cases hxy : x = y
                · have p6 := str_eq_true hxy
                  have HXY := Lib.hid hxy
                  clear hxy
                  go_wp2_with fail
                  go_quiet (fail)
                  go_wp2_with fail
                  go_roundg (a.body.length - (k + 1))
                  case measure => have := HGN.out; omega
                  case rel => exact ⟨k + 1, by go_num, ⟨by have := HGN.out; omega, take_step HTK.out HXT.out HYT.out HXY.out⟩, ⟨pw_below_drewN hBr.out _⟩⟩
                · have p6 := str_eq_false hxy
                  have HXY := Lib.hid hxy
                  clear hxy
                  go_wp2_with fail
                  go_quiet (fail)
                  go_wp2_with fail
                  go_ret
                  exact ⟨ret_bool (decide_eq_false (fun h => take_ne HXT.out HYT.out HXY.out (by rw [h]))).symm, pw_below_drewN HBW.out _⟩
              · have t1 : ¬ (k : Int) < a.body.length := by omega
                go_wp2_with fail
                go_ret
                exact ⟨ret_bool (decide_eq_true (Msg.ext' ⟨H1.out, H2.out, H3.out, H4.out, take_all HTK.out (by omega) (by have := H5.out; omega)⟩)).symm, HBW.out⟩
set_option maxRecDepth 100000 in
set_option maxHeartbeats 2000000 in
theorem sameAll_any (xs ys : List Msg) (A B : Option Addr) (d f : Nat) (w : World) (hC : kMsg.C w A xs.length xs) (hD : kMsg.C w B ys.length ys) :
    Calls Try.prog 28 #[.slice A xs.length d, .slice B ys.length f] w fun e w' => e = .returned (.bool (decide (xs = ys))) ∧ Below w.heap.size w w' := by
  have hn1 := hC.2.1
  have hn2 := hD.2.1
  have HC := Aside0.mk hC
  have HD := Aside0.mk hD
  clear hC hD
  go_enter Try.func28, Try.ntmps28
  by_cases h5 : xs.length = ys.length
  case neg =>
    have p5 := int_bne_true (a := (xs.length : Int)) (b := (ys.length : Int)) (by omega)
    go_wp2_with fail
    go_ret
    exact ⟨ret_bool (decide_eq_false (fun h => h5 (by rw [h]))).symm, Below.refl _ _⟩
  case pos =>
    have p5 := int_bne_false (a := (xs.length : Int)) (b := (ys.length : Int)) (by omega)
    have H5 := Lib.hid h5
    clear h5
    go_wp2_with fail
    go_loopg [5] xs.length (fun gn i wr => ∃ k : Nat, i = .int .i64 k ∧ Aside0 (k + gn = xs.length ∧ xs.take k = ys.take k) ∧ Aside0 (Below w.heap.size w wr))
    case atStart => exact ⟨0, rfl, ⟨by omega, rfl⟩, ⟨Below.refl _ _⟩⟩
    case round =>
      obtain ⟨k, rfl, ⟨hgn, htk⟩, hBr⟩ := hrel
      have HGN := Lib.hid hgn
      have HTK := Lib.hid htk
      clear hgn htk
      by_cases hk : k < xs.length
      · have t0 : (0 : Int) ≤ k := by omega
        have t1 : (k : Int) < xs.length := by omega
        have t2 : (k : Int) < ys.length := by have := H5.out; omega
        obtain ⟨ad, x, X1, x1, rfl, hx, hm, ht, q0, q1, q2, q3, q4, hc1, hc2⟩ := msg_at HC.out hBr.out k hk
        obtain ⟨bd, y, Y1, y1, rfl, hy, hm2, ht2, r0, r1, r2, r3, r4, hd1, hd2⟩ := msg_at HD.out hBr.out k (by have := H5.out; omega)
        have HT := Lib.hid ht
        have HT2 := Lib.hid ht2
        have HH := Aside0.mk (And.intro (Kd.C_below hc2 hBr.out) (Kd.C_below hd2 hBr.out))
        clear hx hm ht hy hm2 ht2 hc2 hd2
        go_wp2_with fail
        go_still_tail 8, (by kernel_rfl)
        obtain ⟨w2, hw2⟩ : ∃ w2, w2 = wr.drew := ⟨_, rfl⟩
        change wpList _ _ _ _ _ wr.drew
        rw [← hw2]
        have hb2 : Below wr.heap.size wr w2 := by rw [hw2]; exact below_drew (Below.refl _ _)
        have hU2 := Aside0.mk (below_then hBr.out hBr.out.size hb2)
        have HH2 := Aside0.mk hb2
        clear hb2 hw2 q0 q1 q2 q3 q4 r0 r1 r2 r3 r4
        go_wp2_with fail
        refine (same_any x y X1 Y1 x1 y1 w2 (Kd.C_below HH.out.1 HH2.out) (Kd.C_below HH.out.2 HH2.out)).mono ?_
        rintro e w3 ⟨rfl, hb3⟩
        have hU3 := Aside0.mk (below_then hU2.out hU2.out.size hb3)
        clear hb3 hU2 HH HH2
        by_cases hxy : x = y
        · rw [decide_eq_true hxy]
          have HXY := Lib.hid hxy
          clear hxy
          go_wp2_with fail
          go_roundg (xs.length - (k + 1))
          case measure => have := HGN.out; omega
          case rel => exact ⟨k + 1, by go_num, ⟨by have := HGN.out; omega, take_step HTK.out HT.out HT2.out HXY.out⟩, hU3⟩
        · rw [decide_eq_false hxy]
          have HXY := Lib.hid hxy
          clear hxy
          go_wp2_with fail
          go_ret
          exact ⟨ret_bool (decide_eq_false (fun h => take_ne HT.out HT2.out HXY.out (by rw [h]))).symm, hU3.out⟩
      · have t1 : ¬ (k : Int) < xs.length := by omega
        go_wp2_with fail
        go_ret
        exact ⟨ret_bool (decide_eq_true (take_all HTK.out (by omega) (by have := H5.out; omega))).symm, hBr.out⟩
end Go.Proofs.Ytlnneaccgfakeaa
