/- Layer 23: the walk of the law LinksHonest. -/
import Derived.Test.YtlnneaccgfakeaaK20
import Derived.Test.YtlnneaccgfakeaaK19
import Derived.StillTailTactics
set_option linter.unusedVariables false
set_option linter.unusedSimpArgs false
namespace Go.Proofs.Ytlnneaccgfakeaa
open Go.RowKit Go.Proofs.YtlnneaccgfakeaaW.PrintWords Go.Proofs.YtlnneaccgfakeaaW.PrintLast
theorem hon_told {n : NS} {L : List Msg} {k : Nat} (h : HonOk n L k) (i : Int) (he : (n.deliver i).1.2 = 0) : (n.deliver i).1.1 ∈ L := by
  unfold NS.deliver at he ⊢
  split
  · rename_i hc
    exact h.2.2.2 _ (getD_mem n.l i.toNat default (by have := hc.1; have := hc.2; omega))
  · rename_i hc
    rw [if_neg hc] at he
    exact absurd (show (1 : Int) = 0 from he) (by decide)
set_option maxRecDepth 100000 in
set_option maxHeartbeats 16000000 in
theorem linksHonest_any (A : Option Addr) (n1 c : Nat) (xs : List Opn) (W : World) (hC : kOp.C W A n1 xs) (hnc : n1 ≤ c) (hZ : xs.length * 72 ≤ 140737488351232 ∧ ∀ x ∈ xs, OpZ x) :
    Calls Try.prog 3 #[.slice A n1 c] W fun e W' => e = .returned (.bool true) ∧ Below W.heap.size W W' := by
  obtain rfl : xs.length = n1 := hC.1
  have HC := Aside0.mk hC
  have HZ := Lib.hid hZ
  have hz := hZ.1
  clear hC hZ
  go_enter Try.func3, Try.ntmps3
  go_wp2_with fail
  refine (weighs_any A c xs W HC.out HZ.out.1 HZ.out.2).mono ?_
  rintro e w1 ⟨⟨n, rfl⟩, hw1⟩
  subst hw1
  by_cases hn : 2147483647 < n
  · go_wp2_with fail
    go_ret
    exact ⟨rfl, Below.refl _ _⟩
  go_wp2_with fail
  refine (awake_any w1).mono ?_
  rintro e w2 ⟨rfl, hb2⟩
  have B2 := Aside0.mk hb2
  clear hb2
  go_wp2_with fail
  refine (new_ok 9 w2 (by decide)).mono ?_
  rintro e w3 ⟨rfl, hp3, hs3, hb3⟩
  obtain ⟨p, hp⟩ : ∃ q, q = w2.heap.size := ⟨_, rfl⟩
  rw [← hp] at hp3 hs3 ⊢
  obtain ⟨base, hbase⟩ : ∃ b, b = w3.heap.size := ⟨_, rfl⟩
  have B3 := Aside0.mk (below_then B2.out B2.out.size hb3)
  have N3 := Aside0.mk (show PNet w3 base p (fun _ => False) (n0 9) none 0 [] from PNet.start hp3 (by omega) (fun h => h))
  have hpw : w1.heap.size ≤ p := by have := B2.out.size; omega
  have hpb : p < base := by omega
  have hb3 : base ≤ w3.heap.size := by omega
  clear hp hp3 hs3 hbase
  go_wp2_with fail
  go_loopg [7, 8] xs.length (fun gn sv i wr => ∃ (k : Nat) (n : NS) (L : List Msg) (V : Option Addr) (vc : Nat) (okP okQ : Nat → Prop) (A : Option Addr) (c : Nat) (ys : List (Msg × Nat)), i = .int .i64 k ∧ sv = .slice V L.length vc ∧ Aside0 (k + gn = xs.length ∧ HonOk n L k ∧ (∀ q, okP q → ¬ okQ q) ∧ (∀ q, okP q → base ≤ q ∧ q < wr.heap.size) ∧ (∀ q, okQ q → base ≤ q ∧ q < wr.heap.size) ∧ base ≤ wr.heap.size) ∧ Aside0 (PNet wr base p okP n A c ys ∧ (kFx w1).R 32 wr base okQ (.slice V L.length vc) L ∧ Below w1.heap.size w1 wr))
  case atStart => exact ⟨0, n0 9, [], none, 0, _, fun _ => False, none, 0, [], rfl, rfl, ⟨by omega, hon_start, fun _ h _ => h, fun _ h => h.elim, fun _ h => h.elim, hb3⟩, ⟨N3.out, Kd.R_nil _ _ _ _ _, B3.out⟩⟩
  case round =>
    obtain ⟨k, ns, L, V, vc, okP, okQ, A', c', ys, rfl, rfl, hF, hI⟩ := hrel
    have HF := Lib.hid hF.out
    have hkl : k ≤ xs.length := by have := hF.out.1; omega
    have hbr : base ≤ wr.heap.size := hF.out.2.2.2.2.2
    have hLk : L.length ≤ k := by have h1 := hF.out.2.1.1; have h2 := hF.out.2.1.2.2.1.1.2; omega
    clear hF
    by_cases hkk : k < xs.length
    · obtain ⟨ad, x, B, d, rfl, hx, hxm, r0, r1, r2, r3, r4, r5, r6, hl, hCb⟩ := op_at HC.out (Below.refl _ _) k hkk
      have q0 := pw_cell_below hI.out.2.2 r0
      have q1 := pw_cell_below hI.out.2.2 r1
      have q2 := pw_cell_below hI.out.2.2 r2
      have q3 := pw_cell_below hI.out.2.2 r3
      have q4 := pw_cell_below hI.out.2.2 r4
      have q5 := pw_cell_below hI.out.2.2 r5
      have q6 := pw_cell_below hI.out.2.2 r6
      have HC0 := Aside0.mk hCb
      have hzx : x.m.body.length * 16 ≤ 140737488355328 := by have := (HZ.out.2 x hxm).1; omega
      have p0 : (0 : Int) ≤ k := by omega
      have p1 : (k : Int) < xs.length := by omega
      obtain ⟨b9, hb9⟩ : ∃ q, q = wr.heap.size := ⟨_, rfl⟩
      obtain ⟨W4, h4, k4, s4, B4⟩ := grow (W := wr) hb9.symm #[.int .i64 x.what, .int .i64 x.at_, .int .i64 x.m.src, .int .i64 x.m.dst, .int .i64 x.m.kind, .int .i64 x.m.pos, .slice B x.m.body.length d] 34
      have N4 := Aside0.mk (hI.out.1.below B4)
      have Q4 := Aside0.mk (Kd.R_below hI.out.2.1 B4)
      have BW4 := Aside0.mk (below_then hI.out.2.2 hI.out.2.2.size B4)
      have K4 := Aside0.mk k4
      have H4 := Lib.hid h4
      have HB9 := Lib.hid hb9
      have h49 : wr.heap.size ≤ b9 := by omega
      have h9l : b9 < W4.heap.size := by omega
      have hlx := Lib.hid hl
      clear hx hxm hl hCb r0 r1 r2 r3 r4 r5 r6 h4 k4 s4 B4 hb9 hI
      go_upto_region 13 with (fail)
      rw [← H4.out, ← HB9.out]
      have HDIS := Lib.hid HF.out.2.2.1
      have HBP := Lib.hid HF.out.2.2.2.1
      have HBQ := Lib.hid HF.out.2.2.2.2.1
      have HON := Lib.hid HF.out.2.1
      have HQM := Lib.hid (show ∀ q, okQ q → ¬ (q = p ∨ okP q) from fun q hq h => h.elim (fun h => by have := (HBQ.out q hq).1; omega) (fun h => HDIS.out q h hq))
      have HB9M := Lib.hid (show ¬ (b9 = p ∨ okP b9) from fun h => h.elim (fun h => by omega) (fun h => by have := (HBP.out b9 h).2; omega))
      have hw4 : wr.heap.size ≤ W4.heap.size := by omega
      clear q0 q1 q2 q3 q4 q5 q6
      have y0 : W4.cell? ⟨b9, 0, none⟩ = some (.int .i64 x.what) := blk_cell K4.out 0
      have y1 : W4.cell? ⟨b9, 1, none⟩ = some (.int .i64 x.at_) := blk_cell K4.out 1
      have y2 : W4.cell? ⟨b9, 2, none⟩ = some (.int .i64 x.m.src) := blk_cell K4.out 2
      have y3 : W4.cell? ⟨b9, 3, none⟩ = some (.int .i64 x.m.dst) := blk_cell K4.out 3
      have y4 : W4.cell? ⟨b9, 4, none⟩ = some (.int .i64 x.m.kind) := blk_cell K4.out 4
      have y5 : W4.cell? ⟨b9, 5, none⟩ = some (.int .i64 x.m.pos) := blk_cell K4.out 5
      have y6 : W4.cell? ⟨b9, 6, none⟩ = some (.slice B x.m.body.length d) := blk_cell K4.out 6
      by_cases c1 : x.what = 1
      case pos =>
        have HW := Lib.hid c1
        clear c1
        have p11 : (x.what == 1) = true := int_beq_true (by rw [HW.out])
        go_wp2_with fail
        refine (send_any ns A' c' ys base p (fun q => okP q ∨ W4.heap.size ≤ q) x.m B d W4 (N4.out.wide (fun q h => .inl h) (fun h => h.elim N4.out.pok (fun h => by omega))) (by omega) (fun q h => .inr h) (Kd.C_below HC0.out BW4.out) hzx ⟨HON.out.2.2.1.1.1, by have := HON.out.2.2.1.1.2; omega⟩).mono ?_
        obtain ⟨⟨er, n9⟩, hsd⟩ : ∃ y, y = ns.send x.m := ⟨_, rfl⟩
        rw [← hsd]
        rintro e w8 ⟨rfl, ⟨A9, c9, ys9, hN9⟩, hm9⟩
        dsimp only at hN9 ⊢
        have hM9 : Mod W4 w8 (fun q => q = p ∨ okP q) := ⟨hm9.os, hm9.tape, hm9.output, hm9.size, fun i hi h => hm9.block i hi (fun hh => h (hh.imp (fun h => h) (fun hh => hh.elim (fun h => h) (fun hh => by omega))))⟩
        have hon9 := hon_send HON.out x.m
        rw [← hsd] at hon9
        dsimp only at hon9
        have HSND := Lib.hid hon9
        have N8 := Aside0.mk hN9.bound
        have Q8 := Aside0.mk (Kd.R_step Q4.out (fun q hq hl => hM9.block q hl (HQM.out q hq)))
        have K9 := Aside0.mk (blk_mod K4.out hM9 HB9M.out)
        have BW8 := Aside0.mk (Mod.below BW4.out hM9 BW4.out.size (fun q h => h.elim (fun h => by omega) (fun h => by have := (HBP.out q h).1; omega)))
        have hs9 := hM9.size
        have hb8 : base ≤ w8.heap.size := by omega
        clear hN9 hm9 hM9 hsd hon9 y0 y1 y2 y3 y4 y5 y6
        by_cases hok : er = 0
        case pos =>
          have p2 := int_beq_true hok
          have hon9 := HSND.out
          rw [if_pos hok] at hon9
          obtain ⟨L9, hL9⟩ : ∃ l, l = L ++ [x.m] := ⟨_, rfl⟩
          rw [← hL9] at hon9
          have HLL9 := Lib.hid (show L9.length = L.length + 1 by rw [hL9]; simp)
          have HON9 := Lib.hid hon9
          have HL9 := Lib.hid hL9
          clear hon9 hL9 hok
          have y2 : w8.cell? ⟨b9, 2, none⟩ = some (.int .i64 x.m.src) := blk_cell K9.out 2
          have y3 : w8.cell? ⟨b9, 3, none⟩ = some (.int .i64 x.m.dst) := blk_cell K9.out 3
          have y4 : w8.cell? ⟨b9, 4, none⟩ = some (.int .i64 x.m.kind) := blk_cell K9.out 4
          have y5 : w8.cell? ⟨b9, 5, none⟩ = some (.int .i64 x.m.pos) := blk_cell K9.out 5
          have y6 : w8.cell? ⟨b9, 6, none⟩ = some (.slice B x.m.body.length d) := blk_cell K9.out 6
          go_wp2_with (at_builtin; go_loud (refine Kd.R_append (kFx w1) (w0 := w8) base rfl (.tmp 59) (.tmp 62) 29 32 _ 56 rfl Try.underlying29 info32 rfl (show (0 : Nat) < 5 by decide) (by omega) _ L x.m [.int .i64 x.m.src, .int .i64 x.m.dst, .int .i64 x.m.kind, .int .i64 x.m.pos, .slice B x.m.body.length d] (fun q => okQ q ∨ w8.heap.size ≤ q) (fun _ => False) rfl rfl ?aP (fun _ hk => hk.elim) ?aF ?aO ?aB ?aS ?aL ?_); (case aP => exact kMsg_K.2 ⟨B, d, rfl, hlx.out, HC0.out⟩); (case aF => exact fun q h => .inr h); (case aO => exact Kd.R_mono Q8.out (fun q h => .inl h)); (case aB => exact Below.refl _ _); (case aS => exact hb8); (case aL => omega); intro v7 w9 ho7 hb7 hg7 hat7; (obtain ⟨V9, vc9, hv9⟩ := Kd.R_slice ho7); (rw [List.length_append, List.length_singleton, ← HLL9.out] at hv9); (rw [← HL9.out] at ho7); subst hv9; (have hM7 : Mod w8 w9 (fun q => okQ q) := ⟨hb7.os, hb7.tape, hb7.output, hg7.size, fun i hi hn => hg7.block i hi (fun he => hn (Q8.out.1 i he.symm))⟩); (have N9' := Aside0.mk (N8.out.mod hM7 (fun h => by (have := (HBQ.out p h).1; omega)) (fun q hq h => hq.1.elim (fun h1 => HDIS.out q h1 h) (fun h1 => by (have := (HBQ.out q h).2; omega))))); (have Q9' := Aside0.mk ho7); (have BW9 := Aside0.mk (Mod.below BW8.out hM7 BW8.out.size (fun q h => by (have := (HBQ.out q h).1; omega)))); (have hs7 := hM7.size); clear ho7 hb7 hg7 hat7 hM7 y2 y3 y4 y5 y6)
          obtain ⟨okP9, hP9⟩ : ∃ o : Nat → Prop, o = fun q => (okP q ∨ W4.heap.size ≤ q) ∧ base ≤ q ∧ q < w8.heap.size := ⟨_, rfl⟩
          obtain ⟨okQ9, hQ9⟩ : ∃ o : Nat → Prop, o = fun q => okQ q ∨ w8.heap.size ≤ q := ⟨_, rfl⟩
          have N9 := N9'
          have Q9 := Q9'
          rw [← hP9] at N9
          rw [← hQ9] at Q9
          have DIS9 := Lib.hid (show ∀ q, okP9 q → ¬ okQ9 q from fun q h1 h2 => by
            rw [hP9] at h1
            rw [hQ9] at h2
            exact h2.elim (fun h2 => h1.1.elim (fun h3 => HDIS.out q h3 h2) (fun h3 => by have := (HBQ.out q h2).2; omega)) (fun h2 => by have := h1.2.2; omega))
          have hb9' : base ≤ w9.heap.size := by omega
          clear hP9 hQ9 N9' Q9'
          have hcnt9 : n9.l.length ≤ 1000 := by have := N9.out.cnt; rw [N9.out.fst, List.length_map]; exact this
          refine (counts_any n9 (.slice A9 ys9.length c9) p w9 N9.out.blk).mono ?_
          rintro e wc ⟨rfl, md, rfl⟩
          go_wp2_with fail
          refine (under_any n9 A9 c9 ys9 base p okP9 (w9.drewN md) (N9.out.below (pw_below_drewN (Below.refl _ _) _))).mono ?_
          rintro e w10 ⟨v, rfl, hRl, hB10⟩
          obtain ⟨Vl, vcl, rfl⟩ := Kd.R_slice hRl
          have hB9 : Below w9.heap.size w9 w10 := below_then (pw_below_drewN (Below.refl w9.heap.size w9) md) (Nat.le_refl _) hB10
          have N10 := Aside0.mk (N9.out.below hB9).bound
          have Q10 := Aside0.mk (Kd.R_mono (ok' := fun q => okQ9 q ∧ base ≤ q ∧ q < w10.heap.size) (Kd.R_bound (Kd.R_below Q9.out hB9)) (fun q hq => ⟨hq.1, hq.2.1, hq.2.2.1⟩))
          have BW10 := Aside0.mk (below_then BW9.out BW9.out.size hB9)
          have hb10 : base ≤ w10.heap.size := Nat.le_trans hb9' hB9.size
          have e1 : (n9.sent != (L9.length : Int)) = false := int_bne_false HON9.out.1.symm
          have e2 : (n9.sent + n9.doubled != n9.lost + n9.delivered + (n9.l.length : Int)) = false := int_bne_false HON9.out.2.1
          have e3 : ¬ (1000 : Int) < n9.l.length := by omega
          obtain ⟨⟨t1, t1'⟩, ⟨t2, t2'⟩, ⟨t3, t3'⟩, t4, t4'⟩ := HON9.out.2.2.1
          clear hRl hB10 hB9
          go_wp2_with fail
          go_roundg (xs.length - (k + 1))
          case measure => have := HF.out.1; omega
          case rel => exact ⟨k + 1, n9, L9, V9, vc9, _, _, A9, c9, ys9, by go_num, rfl, ⟨by have := HF.out.1; omega, HON9.out, fun q h1 h2 => DIS9.out q h1.1 h2.1, fun q h => h.2, fun q h => h.2, hb10⟩, ⟨N10.out, Q10.out, BW10.out⟩⟩
        case neg =>
          have p2 := int_beq_false hok
          have hon9 := HSND.out
          rw [if_neg hok] at hon9
          have HON9 := Lib.hid hon9
          clear hon9 hok
          obtain ⟨okP9, hP9⟩ : ∃ o : Nat → Prop, o = fun q => (okP q ∨ W4.heap.size ≤ q) ∧ base ≤ q ∧ q < w8.heap.size := ⟨_, rfl⟩
          have N9 := N8
          rw [← hP9] at N9
          have DIS9 := Lib.hid (show ∀ q, okP9 q → ¬ okQ q from fun q h1 h2 => by
            rw [hP9] at h1
            exact h1.1.elim (fun h3 => HDIS.out q h3 h2) (fun h3 => by have := (HBQ.out q h2).2; omega))
          clear hP9
          go_wp2_with fail
          have hcnt9 : n9.l.length ≤ 1000 := by have := N9.out.cnt; rw [N9.out.fst, List.length_map]; exact this
          refine (counts_any n9 (.slice A9 ys9.length c9) p w8 N9.out.blk).mono ?_
          rintro e wc ⟨rfl, md, rfl⟩
          go_wp2_with fail
          refine (under_any n9 A9 c9 ys9 base p okP9 (w8.drewN md) (N9.out.below (pw_below_drewN (Below.refl _ _) _))).mono ?_
          rintro e w10 ⟨v, rfl, hRl, hB10⟩
          obtain ⟨Vl, vcl, rfl⟩ := Kd.R_slice hRl
          have hB9 : Below w8.heap.size w8 w10 := below_then (pw_below_drewN (Below.refl w8.heap.size w8) md) (Nat.le_refl _) hB10
          have N10 := Aside0.mk (N9.out.below hB9).bound
          have Q10 := Aside0.mk (Kd.R_mono (ok' := fun q => okQ q ∧ base ≤ q ∧ q < w10.heap.size) (Kd.R_bound (Kd.R_below Q8.out hB9)) (fun q hq => ⟨hq.1, hq.2.1, hq.2.2.1⟩))
          have BW10 := Aside0.mk (below_then BW8.out BW8.out.size hB9)
          have hb10 : base ≤ w10.heap.size := Nat.le_trans hb8 hB9.size
          have e1 : (n9.sent != (L.length : Int)) = false := int_bne_false HON9.out.1.symm
          have e2 : (n9.sent + n9.doubled != n9.lost + n9.delivered + (n9.l.length : Int)) = false := int_bne_false HON9.out.2.1
          have e3 : ¬ (1000 : Int) < n9.l.length := by omega
          obtain ⟨⟨t1, t1'⟩, ⟨t2, t2'⟩, ⟨t3, t3'⟩, t4, t4'⟩ := HON9.out.2.2.1
          clear hRl hB10 hB9
          go_wp2_with fail
          go_roundg (xs.length - (k + 1))
          case measure => have := HF.out.1; omega
          case rel => exact ⟨k + 1, n9, L, V, vc, _, _, A9, c9, ys9, by go_num, rfl, ⟨by have := HF.out.1; omega, HON9.out, fun q h1 h2 => DIS9.out q h1.1 h2.1, fun q h => h.2, fun q h => h.2, hb10⟩, ⟨N10.out, Q10.out, BW10.out⟩⟩
      by_cases c3 : x.what = 3
      case pos =>
        have HW := Lib.hid c3
        clear c1 c3
        have p11 : (x.what == 1) = false := int_beq_false (by rw [HW.out]; decide)
        have p12 : (x.what == 2) = false := int_beq_false (by rw [HW.out]; decide)
        have p13 : (x.what == 3) = true := int_beq_true (by rw [HW.out])
        go_wp2_with fail
        refine (double_any ns A' c' ys base p (fun q => okP q ∨ W4.heap.size ≤ q) x.at_ W4 (N4.out.wide (fun q h => .inl h) (fun h => h.elim N4.out.pok (fun h => by omega))) (by omega) (fun q h => .inr h) ⟨HON.out.2.2.1.2.1.1, by have := HON.out.2.2.1.2.1.2; omega⟩).mono ?_
        obtain ⟨⟨er, n9⟩, hsd⟩ : ∃ y, y = ns.double x.at_ := ⟨_, rfl⟩
        rw [← hsd]
        rintro e w8 ⟨rfl, ⟨A9, c9, ys9, hN9⟩, hm9⟩
        dsimp only at hN9 ⊢

        have hM9 : Mod W4 w8 (fun q => q = p ∨ okP q) := ⟨hm9.os, hm9.tape, hm9.output, hm9.size, fun i hi h => hm9.block i hi (fun hh => h (hh.imp (fun h => h) (fun hh => hh.elim (fun h => h) (fun hh => by omega))))⟩
        have N9 := Aside0.mk hN9.bound
        have Q8 := Aside0.mk (Kd.R_step Q4.out (fun q hq hl => hM9.block q hl (HQM.out q hq)))
        have BW8 := Aside0.mk (Mod.below BW4.out hM9 BW4.out.size (fun q h => h.elim (fun h => by omega) (fun h => by have := (HBP.out q h).1; omega)))
        have K9 := Aside0.mk (blk_mod K4.out hM9 HB9M.out)
        have hs9 := hM9.size
        have hb8 : base ≤ w8.heap.size := by omega

        have hon9 := hon_double HON.out x.at_
        rw [← hsd] at hon9
        have HON9 := Lib.hid hon9
        obtain ⟨okP9, hP9⟩ : ∃ o : Nat → Prop, o = fun q => (okP q ∨ W4.heap.size ≤ q) ∧ base ≤ q ∧ q < w8.heap.size := ⟨_, rfl⟩
        rw [← hP9] at N9
        have DIS9 := Lib.hid (show ∀ q, okP9 q → ¬ okQ q from fun q h1 h2 => by
          rw [hP9] at h1
          exact h1.1.elim (fun h3 => HDIS.out q h3 h2) (fun h3 => by have := (HBQ.out q h2).2; omega))
        clear hP9 hN9 hm9 hM9 hsd hon9 y0 y1 y2 y3 y4 y5 y6
        go_wp2_with fail
        have hcnt9 : n9.l.length ≤ 1000 := by have := N9.out.cnt; rw [N9.out.fst, List.length_map]; exact this
        refine (counts_any n9 (.slice A9 ys9.length c9) p w8 N9.out.blk).mono ?_
        rintro e wc ⟨rfl, md, rfl⟩
        go_wp2_with fail
        refine (under_any n9 A9 c9 ys9 base p okP9 (w8.drewN md) (N9.out.below (pw_below_drewN (Below.refl _ _) _))).mono ?_
        rintro e w10 ⟨v, rfl, hRl, hB10⟩
        obtain ⟨Vl, vcl, rfl⟩ := Kd.R_slice hRl
        have hB9 : Below w8.heap.size w8 w10 := below_then (pw_below_drewN (Below.refl w8.heap.size w8) md) (Nat.le_refl _) hB10
        have N10 := Aside0.mk (N9.out.below hB9).bound
        have Q10 := Aside0.mk (Kd.R_mono (ok' := fun q => okQ q ∧ base ≤ q ∧ q < w10.heap.size) (Kd.R_bound (Kd.R_below Q8.out hB9)) (fun q hq => ⟨hq.1, hq.2.1, hq.2.2.1⟩))
        have BW10 := Aside0.mk (below_then BW8.out BW8.out.size hB9)
        have hb10 : base ≤ w10.heap.size := Nat.le_trans hb8 hB9.size
        have e1 : (n9.sent != (L.length : Int)) = false := int_bne_false HON9.out.1.symm
        have e2 : (n9.sent + n9.doubled != n9.lost + n9.delivered + (n9.l.length : Int)) = false := int_bne_false HON9.out.2.1
        have e3 : ¬ (1000 : Int) < n9.l.length := by omega
        obtain ⟨⟨t1, t1'⟩, ⟨t2, t2'⟩, ⟨t3, t3'⟩, t4, t4'⟩ := HON9.out.2.2.1
        clear hRl hB10 hB9
        go_wp2_with fail
        go_roundg (xs.length - (k + 1))
        case measure => have := HF.out.1; omega
        case rel => exact ⟨k + 1, n9, L, V, vc, _, _, A9, c9, ys9, by go_num, rfl, ⟨by have := HF.out.1; omega, HON9.out, fun q h1 h2 => DIS9.out q h1.1 h2.1, fun q h => h.2, fun q h => h.2, hb10⟩, ⟨N10.out, Q10.out, BW10.out⟩⟩
      by_cases c4 : x.what = 4
      case pos =>
        have HW := Lib.hid c4
        clear c1 c3 c4
        have p11 : (x.what == 1) = false := int_beq_false (by rw [HW.out]; decide)
        have p12 : (x.what == 2) = false := int_beq_false (by rw [HW.out]; decide)
        have p13 : (x.what == 3) = false := int_beq_false (by rw [HW.out]; decide)
        have p14 : (x.what == 4) = true := int_beq_true (by rw [HW.out])
        go_wp2_with fail
        refine (lose_any ns A' c' ys base p okP x.at_ W4 N4.out (by omega) ⟨HON.out.2.2.1.2.2.1.1, by have := HON.out.2.2.1.2.2.1.2; omega⟩).mono ?_
        obtain ⟨⟨er, n9⟩, hsd⟩ : ∃ y, y = ns.lose x.at_ := ⟨_, rfl⟩
        rw [← hsd]
        rintro e w8 ⟨rfl, ⟨A9, c9, ys9, hN9⟩, hm9⟩
        dsimp only at hN9 ⊢

        have hM9 : Mod W4 w8 (fun q => q = p ∨ okP q) := hm9
        have N9 := Aside0.mk hN9
        have Q8 := Aside0.mk (Kd.R_step Q4.out (fun q hq hl => hM9.block q hl (HQM.out q hq)))
        have BW8 := Aside0.mk (Mod.below BW4.out hM9 BW4.out.size (fun q h => h.elim (fun h => by omega) (fun h => by have := (HBP.out q h).1; omega)))
        have K9 := Aside0.mk (blk_mod K4.out hM9 HB9M.out)
        have hs9 := hM9.size
        have hb8 : base ≤ w8.heap.size := by omega

        have hon9 := hon_lose HON.out x.at_
        rw [← hsd] at hon9
        have HON9 := Lib.hid hon9
        clear hN9 hm9 hM9 hsd hon9 y0 y1 y2 y3 y4 y5 y6
        go_wp2_with fail
        have hcnt9 : n9.l.length ≤ 1000 := by have := N9.out.cnt; rw [N9.out.fst, List.length_map]; exact this
        refine (counts_any n9 (.slice A9 ys9.length c9) p w8 N9.out.blk).mono ?_
        rintro e wc ⟨rfl, md, rfl⟩
        go_wp2_with fail
        refine (under_any n9 A9 c9 ys9 base p okP (w8.drewN md) (N9.out.below (pw_below_drewN (Below.refl _ _) _))).mono ?_
        rintro e w10 ⟨v, rfl, hRl, hB10⟩
        obtain ⟨Vl, vcl, rfl⟩ := Kd.R_slice hRl
        have hB9 : Below w8.heap.size w8 w10 := below_then (pw_below_drewN (Below.refl w8.heap.size w8) md) (Nat.le_refl _) hB10
        have N10 := Aside0.mk (N9.out.below hB9).bound
        have Q10 := Aside0.mk (Kd.R_mono (ok' := fun q => okQ q ∧ base ≤ q ∧ q < w10.heap.size) (Kd.R_bound (Kd.R_below Q8.out hB9)) (fun q hq => ⟨hq.1, hq.2.1, hq.2.2.1⟩))
        have BW10 := Aside0.mk (below_then BW8.out BW8.out.size hB9)
        have hb10 : base ≤ w10.heap.size := Nat.le_trans hb8 hB9.size
        have e1 : (n9.sent != (L.length : Int)) = false := int_bne_false HON9.out.1.symm
        have e2 : (n9.sent + n9.doubled != n9.lost + n9.delivered + (n9.l.length : Int)) = false := int_bne_false HON9.out.2.1
        have e3 : ¬ (1000 : Int) < n9.l.length := by omega
        obtain ⟨⟨t1, t1'⟩, ⟨t2, t2'⟩, ⟨t3, t3'⟩, t4, t4'⟩ := HON9.out.2.2.1
        clear hRl hB10 hB9
        go_wp2_with fail
        go_roundg (xs.length - (k + 1))
        case measure => have := HF.out.1; omega
        case rel => exact ⟨k + 1, n9, L, V, vc, _, _, A9, c9, ys9, by go_num, rfl, ⟨by have := HF.out.1; omega, HON9.out, fun q h1 h2 => HDIS.out q h1.1 h2.1, fun q h => h.2, fun q h => h.2, hb10⟩, ⟨N10.out, Q10.out, BW10.out⟩⟩
      by_cases c2 : x.what = 2
      case pos =>
        have HW := Lib.hid c2
        clear c1 c2 c3 c4
        have p11 : (x.what == 1) = false := int_beq_false (by rw [HW.out]; decide)
        have p12 : (x.what == 2) = true := int_beq_true (by rw [HW.out])
        go_wp2_with fail
        refine (deliver_any ns A' c' ys base p okP x.at_ W4 N4.out (by omega) ⟨HON.out.2.2.1.2.2.2.1, by have := HON.out.2.2.1.2.2.2.2; omega⟩).mono ?_
        have hon9 := hon_deliver HON.out x.at_
        have htold := hon_told HON.out x.at_
        obtain ⟨⟨⟨m, er⟩, n9⟩, hsd⟩ : ∃ y, y = ns.deliver x.at_ := ⟨_, rfl⟩
        rw [← hsd] at hon9 htold ⊢
        rintro e w8 ⟨v, b, A9, c9, ys9, rfl, hN9, hRb, hne, hm9⟩
        dsimp only at hN9 hRb hon9 htold ⊢
        obtain ⟨Vm, vm, rfl⟩ := Kd.R_slice hRb
        obtain ⟨b11, hb11⟩ : ∃ q, q = w8.heap.size := ⟨_, rfl⟩
        obtain ⟨w9, h9, k9, s9, B9⟩ := grow (W := w8) hb11.symm #[.int .i64 m.src, .int .i64 m.dst, .int .i64 m.kind, .int .i64 m.pos, .slice Vm m.body.length vm] 32
        have BW8 := Mod.below BW4.out hm9 BW4.out.size (fun q h => h.elim (fun h => by omega) (fun h => by have := (HBP.out q h).1; omega))
        have BW9 := Aside0.mk (below_then BW8 BW8.size B9)
        have N9 := Aside0.mk (hN9.below B9)
        have Q9 := Aside0.mk (Kd.R_below (Kd.R_step Q4.out (fun q hq hl => hm9.block q hl (HQM.out q hq))) B9)
        have HM9 := Aside0.mk (Kd.R_reads' (Kd.R_below hRb B9)).2.2
        have C9 := Aside0.mk k9
        have H9 := Lib.hid h9
        have HB11 := Lib.hid hb11
        have HON9 := Lib.hid hon9
        have HTOLD := Lib.hid htold
        have hb9' : base ≤ w9.heap.size := by have := hm9.size; have := B9.size; omega
        have hml := HM9.out.2.1
        clear hN9 hRb hne hm9 h9 k9 s9 B9 BW8 hb11 hsd hon9 htold y0 y1 y2 y3 y4 y5 y6
        by_cases he0 : er = 0
        case pos =>
          have p2 := int_bne_false he0
          have HML := Lib.hid (HTOLD.out he0)
          clear he0
          go_wp2_with fail
          rw [← H9.out, ← HB11.out]
          go_loopg [13, 14] L.length (fun gn tv i wr => ∃ (j : Nat) (t : Bool), tv = .bool t ∧ i = .int .i64 j ∧ Aside0 (j + gn = L.length ∧ (t = false → ∀ y ∈ L.take j, y ≠ m)) ∧ Aside0 (Below w9.heap.size w9 wr))
          case atStart => exact ⟨0, false, rfl, rfl, ⟨by omega, fun _ y hy => by simp at hy⟩, ⟨Below.refl _ _⟩⟩
          case round =>
            obtain ⟨j, t, rfl, rfl, hJ, hBr⟩ := hrel
            have HJ := Lib.hid hJ.out
            have hjl' : j ≤ L.length := by have := hJ.out.1; omega
            clear hJ
            have NA := Aside0.mk (N9.out.below hBr.out)
            have QA := Aside0.mk (Kd.R_below Q9.out hBr.out)
            have BWA := Aside0.mk (below_then BW9.out BW9.out.size hBr.out)
            have hbA : base ≤ wr.heap.size := Nat.le_trans hb9' hBr.out.size
            by_cases hjl : j < L.length
            case pos =>
              have p3 : (j : Int) < L.length := by omega
              have p4 : (0 : Int) ≤ j := by omega
              cases t with
              | true =>
                go_wp2_with fail
                have hcnt9 : n9.l.length ≤ 1000 := by have := NA.out.cnt; rw [NA.out.fst, List.length_map]; exact this
                refine (counts_any n9 (.slice A9 ys9.length c9) p wr NA.out.blk).mono ?_
                rintro e wc ⟨rfl, md, rfl⟩
                go_wp2_with fail
                refine (under_any n9 A9 c9 ys9 base p okP (wr.drewN md) (NA.out.below (pw_below_drewN (Below.refl _ _) _))).mono ?_
                rintro e w10 ⟨v, rfl, hRl, hB10⟩
                obtain ⟨Vl, vcl, rfl⟩ := Kd.R_slice hRl
                have hB9 : Below wr.heap.size wr w10 := below_then (pw_below_drewN (Below.refl wr.heap.size wr) md) (Nat.le_refl _) hB10
                have N10 := Aside0.mk (NA.out.below hB9).bound
                have Q10 := Aside0.mk (Kd.R_mono (ok' := fun q => okQ q ∧ base ≤ q ∧ q < w10.heap.size) (Kd.R_bound (Kd.R_below QA.out hB9)) (fun q hq => ⟨hq.1, hq.2.1, hq.2.2.1⟩))
                have BW10 := Aside0.mk (below_then BWA.out BWA.out.size hB9)
                have hb10 : base ≤ w10.heap.size := Nat.le_trans hbA hB9.size
                have e1 : (n9.sent != (L.length : Int)) = false := int_bne_false HON9.out.1.symm
                have e2 : (n9.sent + n9.doubled != n9.lost + n9.delivered + (n9.l.length : Int)) = false := int_bne_false HON9.out.2.1
                have e3 : ¬ (1000 : Int) < n9.l.length := by omega
                obtain ⟨⟨t1, t1'⟩, ⟨t2, t2'⟩, ⟨t3, t3'⟩, t4, t4'⟩ := HON9.out.2.2.1
                clear hRl hB10 hB9
                go_wp2_with fail
                go_roundg (xs.length - (k + 1))
                case measure => have := HF.out.1; omega
                case rel => exact ⟨k + 1, n9, L, V, vc, _, _, A9, c9, ys9, by go_num, rfl, ⟨by have := HF.out.1; omega, HON9.out, fun q h1 h2 => HDIS.out q h1.1 h2.1, fun q h => h.2, fun q h => h.2, hb10⟩, ⟨N10.out, Q10.out, BW10.out⟩⟩
              | false =>
                obtain ⟨ad2, y, Y1, yd, hV, hy, hym, hyt, r0, r1, r2, r3, r4, hyl, hyC⟩ := fx_at (Kd.R_reads' Q9.out).2.2 hBr.out j hjl
                subst hV
                have x0 : wr.cell? ⟨b11, 0, none⟩ = some (.int .i64 m.src) := blk_cell (blk_below C9.out hBr.out) 0
                have x1 : wr.cell? ⟨b11, 1, none⟩ = some (.int .i64 m.dst) := blk_cell (blk_below C9.out hBr.out) 1
                have x2 : wr.cell? ⟨b11, 2, none⟩ = some (.int .i64 m.kind) := blk_cell (blk_below C9.out hBr.out) 2
                have x3 : wr.cell? ⟨b11, 3, none⟩ = some (.int .i64 m.pos) := blk_cell (blk_below C9.out hBr.out) 3
                have x4 : wr.cell? ⟨b11, 4, none⟩ = some (.slice Vm m.body.length vm) := blk_cell (blk_below C9.out hBr.out) 4
                have HYT := Lib.hid hyt
                have HYC := Aside0.mk (Kd.C_below hyC BWA.out)
                have HMA := Aside0.mk (Kd.C_below HM9.out hBr.out)
                have hyl' := hyC.2.1
                clear hy hym hyt hyC
                go_wp2_with fail
                go_still_tail 5, (by kernel_rfl)
                obtain ⟨wd, hwd⟩ : ∃ u, u = wr.drew := ⟨_, rfl⟩
                change wpList _ _ _ _ _ wr.drew
                rw [← hwd]
                have hbd : Below wr.heap.size wr wd := by rw [hwd]; exact below_drew (Below.refl _ _)
                have BD := Aside0.mk hbd
                clear hbd hwd r0 r1 r2 r3 r4 x0 x1 x2 x3 x4
                go_wp2_with fail
                refine (same_any y m Y1 Vm yd vm wd (Kd.C_below HYC.out BD.out) (Kd.C_below HMA.out BD.out)).mono ?_
                rintro e we ⟨rfl, hbe⟩
                have BE := Aside0.mk (below_then (below_then hBr.out hBr.out.size BD.out) (Nat.le_trans hBr.out.size BD.out.size) hbe)
                clear hbe
                by_cases hyem : y = m
                · rw [decide_eq_true hyem]
                  go_wp2_with fail
                  go_roundg (L.length - (j + 1))
                  case measure => have := HJ.out.1; omega
                  case rel => exact ⟨j + 1, true, rfl, by go_num, ⟨by omega, fun h => by cases h⟩, BE⟩
                · rw [decide_eq_false hyem]
                  have HYE := Lib.hid hyem
                  clear hyem
                  go_wp2_with fail
                  go_roundg (L.length - (j + 1))
                  case measure => have := HJ.out.1; omega
                  case rel => exact ⟨j + 1, false, rfl, by go_num, ⟨by omega, fun _ z hz => by
                    rw [HYT.out] at hz
                    rcases List.mem_append.1 hz with hz | hz
                    · exact HJ.out.2 (by first | rfl | trivial) z hz
                    · rw [List.mem_singleton.1 hz]; exact HYE.out⟩, BE⟩
            case neg =>
              have p3 : ¬ (j : Int) < L.length := by omega
              cases t with
              | true =>
                go_wp2_with fail
                have hcnt9 : n9.l.length ≤ 1000 := by have := NA.out.cnt; rw [NA.out.fst, List.length_map]; exact this
                refine (counts_any n9 (.slice A9 ys9.length c9) p wr NA.out.blk).mono ?_
                rintro e wc ⟨rfl, md, rfl⟩
                go_wp2_with fail
                refine (under_any n9 A9 c9 ys9 base p okP (wr.drewN md) (NA.out.below (pw_below_drewN (Below.refl _ _) _))).mono ?_
                rintro e w10 ⟨v, rfl, hRl, hB10⟩
                obtain ⟨Vl, vcl, rfl⟩ := Kd.R_slice hRl
                have hB9 : Below wr.heap.size wr w10 := below_then (pw_below_drewN (Below.refl wr.heap.size wr) md) (Nat.le_refl _) hB10
                have N10 := Aside0.mk (NA.out.below hB9).bound
                have Q10 := Aside0.mk (Kd.R_mono (ok' := fun q => okQ q ∧ base ≤ q ∧ q < w10.heap.size) (Kd.R_bound (Kd.R_below QA.out hB9)) (fun q hq => ⟨hq.1, hq.2.1, hq.2.2.1⟩))
                have BW10 := Aside0.mk (below_then BWA.out BWA.out.size hB9)
                have hb10 : base ≤ w10.heap.size := Nat.le_trans hbA hB9.size
                have e1 : (n9.sent != (L.length : Int)) = false := int_bne_false HON9.out.1.symm
                have e2 : (n9.sent + n9.doubled != n9.lost + n9.delivered + (n9.l.length : Int)) = false := int_bne_false HON9.out.2.1
                have e3 : ¬ (1000 : Int) < n9.l.length := by omega
                obtain ⟨⟨t1, t1'⟩, ⟨t2, t2'⟩, ⟨t3, t3'⟩, t4, t4'⟩ := HON9.out.2.2.1
                clear hRl hB10 hB9
                go_wp2_with fail
                go_roundg (xs.length - (k + 1))
                case measure => have := HF.out.1; omega
                case rel => exact ⟨k + 1, n9, L, V, vc, _, _, A9, c9, ys9, by go_num, rfl, ⟨by have := HF.out.1; omega, HON9.out, fun q h1 h2 => HDIS.out q h1.1 h2.1, fun q h => h.2, fun q h => h.2, hb10⟩, ⟨N10.out, Q10.out, BW10.out⟩⟩
              | false =>
                exfalso
                have h1 := HJ.out.2 (by first | rfl | trivial)
                rw [List.take_of_length_le (by omega)] at h1
                exact h1 m HML.out rfl
        case neg =>
          have p2 := int_bne_true he0
          clear he0
          go_wp2_with fail
          rw [← H9.out, ← HB11.out]
          go_loopg [13, 14] L.length (fun gn tv i wr => ∃ (j : Nat), tv = .bool true ∧ i = .int .i64 j ∧ Aside0 (j ≤ L.length) ∧ Aside0 (Below w9.heap.size w9 wr))
          case atStart => exact ⟨0, rfl, rfl, ⟨by omega⟩, ⟨Below.refl _ _⟩⟩
          case round =>
            obtain ⟨j, rfl, rfl, hJ, hBr⟩ := hrel
            have hjl' := hJ.out
            clear hJ
            have NA := Aside0.mk (N9.out.below hBr.out)
            have QA := Aside0.mk (Kd.R_below Q9.out hBr.out)
            have BWA := Aside0.mk (below_then BW9.out BW9.out.size hBr.out)
            have hbA : base ≤ wr.heap.size := Nat.le_trans hb9' hBr.out.size
            by_cases hjl : j < L.length
            case pos =>
              have p3 : (j : Int) < L.length := by omega
              go_wp2_with fail
              have hcnt9 : n9.l.length ≤ 1000 := by have := NA.out.cnt; rw [NA.out.fst, List.length_map]; exact this
              refine (counts_any n9 (.slice A9 ys9.length c9) p wr NA.out.blk).mono ?_
              rintro e wc ⟨rfl, md, rfl⟩
              go_wp2_with fail
              refine (under_any n9 A9 c9 ys9 base p okP (wr.drewN md) (NA.out.below (pw_below_drewN (Below.refl _ _) _))).mono ?_
              rintro e w10 ⟨v, rfl, hRl, hB10⟩
              obtain ⟨Vl, vcl, rfl⟩ := Kd.R_slice hRl
              have hB9 : Below wr.heap.size wr w10 := below_then (pw_below_drewN (Below.refl wr.heap.size wr) md) (Nat.le_refl _) hB10
              have N10 := Aside0.mk (NA.out.below hB9).bound
              have Q10 := Aside0.mk (Kd.R_mono (ok' := fun q => okQ q ∧ base ≤ q ∧ q < w10.heap.size) (Kd.R_bound (Kd.R_below QA.out hB9)) (fun q hq => ⟨hq.1, hq.2.1, hq.2.2.1⟩))
              have BW10 := Aside0.mk (below_then BWA.out BWA.out.size hB9)
              have hb10 : base ≤ w10.heap.size := Nat.le_trans hbA hB9.size
              have e1 : (n9.sent != (L.length : Int)) = false := int_bne_false HON9.out.1.symm
              have e2 : (n9.sent + n9.doubled != n9.lost + n9.delivered + (n9.l.length : Int)) = false := int_bne_false HON9.out.2.1
              have e3 : ¬ (1000 : Int) < n9.l.length := by omega
              obtain ⟨⟨t1, t1'⟩, ⟨t2, t2'⟩, ⟨t3, t3'⟩, t4, t4'⟩ := HON9.out.2.2.1
              clear hRl hB10 hB9
              go_wp2_with fail
              go_roundg (xs.length - (k + 1))
              case measure => have := HF.out.1; omega
              case rel => exact ⟨k + 1, n9, L, V, vc, _, _, A9, c9, ys9, by go_num, rfl, ⟨by have := HF.out.1; omega, HON9.out, fun q h1 h2 => HDIS.out q h1.1 h2.1, fun q h => h.2, fun q h => h.2, hb10⟩, ⟨N10.out, Q10.out, BW10.out⟩⟩
            case neg =>
              have p3 : ¬ (j : Int) < L.length := by omega
              go_wp2_with fail
              have hcnt9 : n9.l.length ≤ 1000 := by have := NA.out.cnt; rw [NA.out.fst, List.length_map]; exact this
              refine (counts_any n9 (.slice A9 ys9.length c9) p wr NA.out.blk).mono ?_
              rintro e wc ⟨rfl, md, rfl⟩
              go_wp2_with fail
              refine (under_any n9 A9 c9 ys9 base p okP (wr.drewN md) (NA.out.below (pw_below_drewN (Below.refl _ _) _))).mono ?_
              rintro e w10 ⟨v, rfl, hRl, hB10⟩
              obtain ⟨Vl, vcl, rfl⟩ := Kd.R_slice hRl
              have hB9 : Below wr.heap.size wr w10 := below_then (pw_below_drewN (Below.refl wr.heap.size wr) md) (Nat.le_refl _) hB10
              have N10 := Aside0.mk (NA.out.below hB9).bound
              have Q10 := Aside0.mk (Kd.R_mono (ok' := fun q => okQ q ∧ base ≤ q ∧ q < w10.heap.size) (Kd.R_bound (Kd.R_below QA.out hB9)) (fun q hq => ⟨hq.1, hq.2.1, hq.2.2.1⟩))
              have BW10 := Aside0.mk (below_then BWA.out BWA.out.size hB9)
              have hb10 : base ≤ w10.heap.size := Nat.le_trans hbA hB9.size
              have e1 : (n9.sent != (L.length : Int)) = false := int_bne_false HON9.out.1.symm
              have e2 : (n9.sent + n9.doubled != n9.lost + n9.delivered + (n9.l.length : Int)) = false := int_bne_false HON9.out.2.1
              have e3 : ¬ (1000 : Int) < n9.l.length := by omega
              obtain ⟨⟨t1, t1'⟩, ⟨t2, t2'⟩, ⟨t3, t3'⟩, t4, t4'⟩ := HON9.out.2.2.1
              clear hRl hB10 hB9
              go_wp2_with fail
              go_roundg (xs.length - (k + 1))
              case measure => have := HF.out.1; omega
              case rel => exact ⟨k + 1, n9, L, V, vc, _, _, A9, c9, ys9, by go_num, rfl, ⟨by have := HF.out.1; omega, HON9.out, fun q h1 h2 => HDIS.out q h1.1 h2.1, fun q h => h.2, fun q h => h.2, hb10⟩, ⟨N10.out, Q10.out, BW10.out⟩⟩
      have p11 := int_beq_false c1
      have p12 := int_beq_false c2
      have p13 := int_beq_false c3
      have p14 := int_beq_false c4
      have HON9 := Lib.hid (hon_more HON.out)
      have hb4 : base ≤ W4.heap.size := by omega
      clear c1 c2 c3 c4 y1 y2 y3 y4 y5 y6
      go_wp2_with fail
      clear y0
      have hcnt9 : ns.l.length ≤ 1000 := by have := N4.out.cnt; rw [N4.out.fst, List.length_map]; exact this
      refine (counts_any ns (.slice A' ys.length c') p W4 N4.out.blk).mono ?_
      rintro e wc ⟨rfl, md, rfl⟩
      go_wp2_with fail
      refine (under_any ns A' c' ys base p okP (W4.drewN md) (N4.out.below (pw_below_drewN (Below.refl _ _) _))).mono ?_
      rintro e w10 ⟨v, rfl, hRl, hB10⟩
      obtain ⟨Vl, vcl, rfl⟩ := Kd.R_slice hRl
      have hB9 : Below W4.heap.size W4 w10 := below_then (pw_below_drewN (Below.refl W4.heap.size W4) md) (Nat.le_refl _) hB10
      have N10 := Aside0.mk (N4.out.below hB9).bound
      have Q10 := Aside0.mk (Kd.R_mono (ok' := fun q => okQ q ∧ base ≤ q ∧ q < w10.heap.size) (Kd.R_bound (Kd.R_below Q4.out hB9)) (fun q hq => ⟨hq.1, hq.2.1, hq.2.2.1⟩))
      have BW10 := Aside0.mk (below_then BW4.out BW4.out.size hB9)
      have hb10 : base ≤ w10.heap.size := Nat.le_trans hb4 hB9.size
      have e1 : (ns.sent != (L.length : Int)) = false := int_bne_false HON9.out.1.symm
      have e2 : (ns.sent + ns.doubled != ns.lost + ns.delivered + (ns.l.length : Int)) = false := int_bne_false HON9.out.2.1
      have e3 : ¬ (1000 : Int) < ns.l.length := by omega
      obtain ⟨⟨t1, t1'⟩, ⟨t2, t2'⟩, ⟨t3, t3'⟩, t4, t4'⟩ := HON9.out.2.2.1
      clear hRl hB10 hB9
      go_wp2_with fail
      go_roundg (xs.length - (k + 1))
      case measure => have := HF.out.1; omega
      case rel => exact ⟨k + 1, ns, L, V, vc, _, _, A', c', ys, by go_num, rfl, ⟨by have := HF.out.1; omega, HON9.out, fun q h1 h2 => HDIS.out q h1.1 h2.1, fun q h => h.2, fun q h => h.2, hb10⟩, ⟨N10.out, Q10.out, BW10.out⟩⟩
    · have p1 : ¬ (k : Int) < xs.length := by omega
      have HON := Lib.hid HF.out.2.1
      go_wp2_with fail
      refine (under_any ns A' c' ys base p okP wr hI.out.1).mono ?_
      rintro e w6 ⟨v, rfl, hRl, hB6⟩
      obtain ⟨Vl, vcl, rfl⟩ := Kd.R_slice hRl
      have hll := (Kd.R_reads' hRl).2.2.2.1
      have HRL := Aside0.mk (Kd.R_reads' hRl).2.2
      have Q6 := Aside0.mk (Kd.R_below hI.out.2.1 hB6)
      have BW6 := Aside0.mk (below_then hI.out.2.2 hI.out.2.2.size hB6)
      clear hRl hB6 hI
      go_wp2_with fail
      go_loopg [21] ns.l.length (fun gn i wr => ∃ a : Nat, i = .int .i64 a ∧ Aside0 (a + gn = ns.l.length) ∧ Aside0 (Below w6.heap.size w6 wr))
      case atStart => exact ⟨0, rfl, ⟨by omega⟩, ⟨Below.refl _ _⟩⟩
      case round =>
        obtain ⟨a, rfl, hA, hBa⟩ := hrel
        have HA := Lib.hid hA.out
        have hal : a ≤ ns.l.length := by have := hA.out; omega
        clear hA
        by_cases haa : a < ns.l.length
        · have p5 : (0 : Int) ≤ a := by omega
          have p6 : (a : Int) < ns.l.length := by omega
          obtain ⟨ad3, m, Vm, vm, hV3, hm, hmm, _, _, _, _, _, _, _, _⟩ := msg_at HRL.out (Below.refl _ _) a haa
          have HML := Lib.hid (HON.out.2.2.2 m hmm)
          have HMM := Lib.hid hm
          clear hm hmm
          subst hV3
          go_wp2_with fail
          go_loopg [22, 23] L.length (fun gn tv i wr => ∃ (j : Nat) (t : Bool), tv = .bool t ∧ i = .int .i64 j ∧ Aside0 (j + gn = L.length ∧ (t = false → ∀ y ∈ L.take j, y ≠ m)) ∧ Aside0 (Below w6.heap.size w6 wr))
          case atStart => exact ⟨0, false, rfl, rfl, ⟨by omega, fun _ y hy => by simp at hy⟩, hBa⟩
          case round =>
            obtain ⟨j, t, rfl, rfl, hJ, hBr⟩ := hrel
            have HJ := Lib.hid hJ.out
            have hjl' : j ≤ L.length := by have := hJ.out.1; omega
            clear hJ
            have BWA := Aside0.mk (below_then BW6.out BW6.out.size hBr.out)
            by_cases hjl : j < L.length
            case pos =>
              have p3 : (j : Int) < L.length := by omega
              have p4 : (0 : Int) ≤ j := by omega
              cases t with
              | true =>
                go_wp2_with fail
                go_roundg (ns.l.length - (a + 1))
                case measure => have := HA.out; omega
                case rel => exact ⟨a + 1, by go_num, ⟨by omega⟩, hBr⟩
              | false =>
                obtain ⟨ad2, y, Y1, yd, hV, hy, hym, hyt, r0, r1, r2, r3, r4, hyl, hyC⟩ := fx_at (Kd.R_reads' Q6.out).2.2 hBr.out j hjl
                subst hV
                obtain ⟨ad4, m', Vm', vm', hV4, hm', _, _, x0, x1, x2, x3, x4, hml', hmC'⟩ := msg_at HRL.out hBr.out a haa
                obtain rfl : ad3 = ad4 := Option.some.inj hV4
                obtain rfl : m = m' := HMM.out.symm.trans hm'
                have HYT := Lib.hid hyt
                have HYC := Aside0.mk (Kd.C_below hyC BWA.out)
                have HMA := Aside0.mk (Kd.C_below hmC' hBr.out)
                have hyl' := hyC.2.1
                have hml'' := hmC'.2.1
                clear hy hym hyt hyC hm' hmC' hml' hV4
                go_wp2_with fail
                go_still_tail 8, (by kernel_rfl)
                obtain ⟨wd, hwd⟩ : ∃ u, u = wr.drew := ⟨_, rfl⟩
                change wpList _ _ _ _ _ wr.drew
                rw [← hwd]
                have hbd : Below wr.heap.size wr wd := by rw [hwd]; exact below_drew (Below.refl _ _)
                have BD := Aside0.mk hbd
                clear hbd hwd r0 r1 r2 r3 r4 x0 x1 x2 x3 x4
                go_wp2_with fail
                refine (same_any y m Y1 Vm' yd vm' wd (Kd.C_below HYC.out BD.out) (Kd.C_below HMA.out BD.out)).mono ?_
                rintro e we ⟨rfl, hbe⟩
                have BE := Aside0.mk (below_then (below_then hBr.out hBr.out.size BD.out) (Nat.le_trans hBr.out.size BD.out.size) hbe)
                clear hbe
                by_cases hyem : y = m
                · rw [decide_eq_true hyem]
                  go_wp2_with fail
                  go_roundg (L.length - (j + 1))
                  case measure => have := HJ.out.1; omega
                  case rel => exact ⟨j + 1, true, rfl, by go_num, ⟨by omega, fun h => by cases h⟩, BE⟩
                · rw [decide_eq_false hyem]
                  have HYE := Lib.hid hyem
                  clear hyem
                  go_wp2_with fail
                  go_roundg (L.length - (j + 1))
                  case measure => have := HJ.out.1; omega
                  case rel => exact ⟨j + 1, false, rfl, by go_num, ⟨by omega, fun _ z hz => by
                    rw [HYT.out] at hz
                    rcases List.mem_append.1 hz with hz | hz
                    · exact HJ.out.2 (by first | rfl | trivial) z hz
                    · rw [List.mem_singleton.1 hz]; exact HYE.out⟩, BE⟩
            case neg =>
              have p3 : ¬ (j : Int) < L.length := by omega
              cases t with
              | true =>
                go_wp2_with fail
                go_roundg (ns.l.length - (a + 1))
                case measure => have := HA.out; omega
                case rel => exact ⟨a + 1, by go_num, ⟨by omega⟩, hBr⟩
              | false =>
                exfalso
                have h1 := HJ.out.2 (by first | rfl | trivial)
                rw [List.take_of_length_le (by omega)] at h1
                exact h1 m HML.out rfl
        · have p6 : ¬ (a : Int) < ns.l.length := by omega
          go_wp2_with fail
          go_ret
          exact ⟨rfl, below_then BW6.out BW6.out.size hBa.out⟩
end Go.Proofs.Ytlnneaccgfakeaa
