/- Layer 23: the walks of Send, Double. -/
import Derived.Test.YtlnneaccgfakeaaK5
set_option linter.unusedVariables false
set_option linter.unusedSimpArgs false
namespace Go.Proofs.Ytlnneaccgfakeaa
open Go.RowKit Go.Proofs.YtlnneaccgfakeaaW.PrintWords Go.Proofs.YtlnneaccgfakeaaW.PrintLast
theorem PNet.f5 {w : World} {base p : Nat} {ok : Nat → Prop} {n : NS} {A : Option Addr} {c : Nat} {xs : List (Msg × Nat)} (h : PNet w base p ok n A c xs) : w.cell? ⟨p, 5, none⟩ = some (.slice A xs.length c) := blk_cell h.blk 5
theorem nodup_app {l : List Nat} {b : Nat} (h : l.Nodup) (hb : ¬ b ∈ l) : (l ++ [b]).Nodup := by
  rw [List.nodup_append]
  refine ⟨h, by simp, fun a ha c hc => ?_⟩
  rw [List.mem_singleton.1 hc]
  rintro rfl
  exact hb ha
theorem send_no1 {n : NS} {m : Msg} (h : ¬ n.isNode m.src ∨ ¬ n.isNode m.dst ∨ m.src = m.dst) : n.send m = (230, n) := if_pos h
theorem send_no2 {n : NS} {m : Msg} (h : ¬ (¬ n.isNode m.src ∨ ¬ n.isNode m.dst ∨ m.src = m.dst)) (h2 : 1000 ≤ n.l.length) : n.send m = (2, n) := by unfold NS.send; rw [if_neg h, if_pos h2]
theorem send_ok {n : NS} {m : Msg} (h : ¬ (¬ n.isNode m.src ∨ ¬ n.isNode m.dst ∨ m.src = m.dst)) (h2 : ¬ 1000 ≤ n.l.length) : n.send m = (0, { n with l := n.l ++ [m], sent := n.sent + 1 }) := by unfold NS.send; rw [if_neg h, if_neg h2]
set_option maxRecDepth 100000 in
set_option maxHeartbeats 8000000 in
theorem send_any (n : NS) (A : Option Addr) (c : Nat) (xs : List (Msg × Nat)) (base p : Nat) (ok : Nat → Prop) (m : Msg) (B : Option Addr) (d : Nat) (w : World) (hN : PNet w base p ok n A c xs) (hb0 : base ≤ w.heap.size) (hfr : ∀ k, w.heap.size ≤ k → ok k)
    (hC : Kd.string.C w B m.body.length m.body) (hz : m.body.length * 16 ≤ 140737488355328) (hs : 0 ≤ n.sent ∧ n.sent < 4611686018427387904) :
    Calls Try.prog 8 #[.pointer (some ⟨p, 0, none⟩), .agg #[.int .i64 m.src, .int .i64 m.dst, .int .i64 m.kind, .int .i64 m.pos, .slice B m.body.length d]] w (PStep base p ok (.int .i64 (n.send m).1) (n.send m).2 w) := by
  have HC := Aside0.mk hC
  have HN0 := Aside0.mk hN
  obtain ⟨W1, h1, b1, s1, B1⟩ := grow (W := w) rfl #[.int .i64 m.src, .int .i64 m.dst, .int .i64 m.kind, .int .i64 m.pos, .slice B m.body.length d] 32
  obtain ⟨bx, hbx⟩ : ∃ q, q = w.heap.size := ⟨_, rfl⟩
  rw [← hbx] at b1
  have HBX := Lib.hid hbx
  have HN1 := Aside0.mk (hN.below B1)
  have HB1 := Aside0.mk B1
  have BX := Aside0.mk b1
  have H1 := Lib.hid h1
  have HS := Lib.hid hs
  have hll : xs.length = n.l.length := by rw [hN.fst, List.length_map]
  have HLL := Lib.hid hll
  have x0 : W1.cell? ⟨bx, 0, none⟩ = some (.int .i64 m.src) := blk_cell b1 0
  have x1 : W1.cell? ⟨bx, 1, none⟩ = some (.int .i64 m.dst) := blk_cell b1 1
  have hf5 := HN1.out.f5
  clear hC h1 s1 B1 b1 hs hll hN hbx
  go_enter Try.func8, Try.ntmps8
  go_wp2_with (rw [← H1.out, ← HBX.out])
  refine (node_any n (.slice A xs.length c) p m.src W1 HN1.out.blk).mono ?_
  rintro e w' ⟨rfl, hw'⟩
  subst hw'
  by_cases h1 : n.isNode m.src
  case neg =>
    rw [decide_eq_false h1]
    go_wp2_with fail
    go_ret
    exact ⟨by rw [send_no1 (.inl h1)]; rfl, ⟨A, c, xs, by rw [send_no1 (.inl h1)]; exact HN1.out⟩, Mod.of_below HB1.out⟩
  case pos =>
    rw [decide_eq_true h1]
    go_wp2_with fail
    refine (node_any n (.slice A xs.length c) p m.dst w' HN1.out.blk).mono ?_
    rintro e w1 ⟨rfl, hw1⟩
    subst hw1
    by_cases h2 : n.isNode m.dst
    case neg =>
      rw [decide_eq_false h2]
      go_wp2_with fail
      go_ret
      exact ⟨by rw [send_no1 (.inr (.inl h2))]; rfl, ⟨A, c, xs, by rw [send_no1 (.inr (.inl h2))]; exact HN1.out⟩, Mod.of_below HB1.out⟩
    case pos =>
      rw [decide_eq_true h2]
      by_cases h3 : m.src = m.dst
      case pos =>
        have p3 := int_beq_true h3
        have H3 := Lib.hid h3
        clear h3
        go_wp2_with fail
        go_ret
        exact ⟨by rw [send_no1 (.inr (.inr H3.out))]; rfl, ⟨A, c, xs, by rw [send_no1 (.inr (.inr H3.out))]; exact HN1.out⟩, Mod.of_below HB1.out⟩
      case neg =>
        have p3 := int_beq_false h3
        have hno : ¬ (¬ n.isNode m.src ∨ ¬ n.isNode m.dst ∨ m.src = m.dst) := by rintro (h | h | h); exact h h1; exact h h2; exact h3 h
        have HNO := Lib.hid hno
        clear hno h1 h2 h3
        by_cases h4 : 1000 ≤ xs.length
        case pos =>
          have p4 : (1000 : Int) ≤ xs.length := by omega
          go_wp2_with fail
          go_ret
          have h5 : 1000 ≤ n.l.length := by have := HLL.out; omega
          exact ⟨by rw [send_no2 HNO.out h5]; rfl, ⟨A, c, xs, by rw [send_no2 HNO.out h5]; exact HN1.out⟩, Mod.of_below HB1.out⟩
        case neg =>
          have p4 : ¬ (1000 : Int) ≤ xs.length := by omega
          have h5 : ¬ 1000 ≤ n.l.length := by have := HLL.out; omega
          have hs1 := HS.out.1
          have hs2 := HS.out.2
          have x2 : w1.cell? ⟨bx, 2, none⟩ = some (.int .i64 m.kind) := blk_cell BX.out 2
          have x3 : w1.cell? ⟨bx, 3, none⟩ = some (.int .i64 m.pos) := blk_cell BX.out 3
          have x4 : w1.cell? ⟨bx, 4, none⟩ = some (.slice B m.body.length d) := blk_cell BX.out 4
          go_wp2_with fail
          refine start_ (n := 12) (S := fun w' => w'.cell? ⟨p, 5, none⟩ = some (.slice A xs.length c) ∧ w'.cell? ⟨bx, 0, none⟩ = some (.int .i64 m.src) ∧ w'.cell? ⟨bx, 1, none⟩ = some (.int .i64 m.dst) ∧ w'.cell? ⟨bx, 2, none⟩ = some (.int .i64 m.kind) ∧ w'.cell? ⟨bx, 3, none⟩ = some (.int .i64 m.pos) ∧ w'.cell? ⟨bx, 4, none⟩ = some (.slice B m.body.length d)) (ds := [8, 11]) #[false, false, false, false, false, false, false, false, false, false, false, false] (by kernel_rfl) rfl rfl ⟨hf5, x0, x1, x2, x3, x4⟩ (fun hHeld => ?_)
          refine pure_ (i := 0) (N := some 32) (v := ?_) (a' := ?_) #[true, false, false, false, false, false, false, false, false, false, false, false] rfl rfl (by kernel_rfl) (fun _ _ _ h => h) (Or.inl ⟨by rfl, ?_⟩) ?_ ?_
          rotate_left
          · intro w'
            go_simp
            with_reducible rfl
          rotate_left
          · simp only [Act.put, List.setIfInBounds_toArray, List.set_cons_zero, List.set_cons_succ, i64_w, i32_w]
            rfl
          refine pure_ (i := 1) (N := some 33) (v := ?_) (a' := ?_) #[true, true, false, false, false, false, false, false, false, false, false, false] rfl rfl (by kernel_rfl) (fun _ _ _ h => h) (Or.inl ⟨by rfl, ?_⟩) ?_ ?_
          rotate_left
          · intro w'
            go_simp
            with_reducible rfl
          rotate_left
          · simp only [Act.put, List.setIfInBounds_toArray, List.set_cons_zero, List.set_cons_succ, i64_w, i32_w]
            rfl
          refine pure_ (i := 2) (N := some 34) (v := ?_) (a' := ?_) #[true, true, true, false, false, false, false, false, false, false, false, false] rfl rfl (by kernel_rfl) (fun _ _ _ h => h) (Or.inl ⟨by rfl, ?_⟩) ?_ ?_
          rotate_left
          · intro w'
            go_simp
            with_reducible rfl
          rotate_left
          · simp only [Act.put, List.setIfInBounds_toArray, List.set_cons_zero, List.set_cons_succ, i64_w, i32_w]
            rfl
          refine pure_ (i := 3) (N := some 35) (v := ?_) (a' := ?_) #[true, true, true, true, false, false, false, false, false, false, false, false] rfl rfl (by kernel_rfl) (fun _ _ _ h => h) (Or.inl ⟨by rfl, ?_⟩) ?_ ?_
          rotate_left
          · intro w'
            go_simp
            with_reducible rfl
          rotate_left
          · simp only [Act.put, List.setIfInBounds_toArray, List.set_cons_zero, List.set_cons_succ, i64_w, i32_w]
            rfl
          refine take_ (i := 4) (N := some 36) (v := ?_) (a' := ?_) #[true, true, true, true, true, false, false, false, false, false, false, false] rfl rfl (by kernel_rfl) (fun _ _ _ h => h) (Or.inl ⟨by rfl, ?_⟩) hHeld ?_ ?_
          rotate_left
          · rintro w' ⟨s0, s1, s2, s3, s4, s5⟩
            go_simp
            with_reducible rfl
          rotate_left
          · simp only [Act.put, List.setIfInBounds_toArray, List.set_cons_zero, List.set_cons_succ, i64_w, i32_w]
            rfl
          refine take_ (i := 5) (N := some 37) (v := ?_) (a' := ?_) #[true, true, true, true, true, true, false, false, false, false, false, false] rfl rfl (by kernel_rfl) (fun _ _ _ h => h) (Or.inl ⟨by rfl, ?_⟩) hHeld ?_ ?_
          rotate_left
          · rintro w' ⟨s0, s1, s2, s3, s4, s5⟩
            go_simp
            with_reducible rfl
          rotate_left
          · simp only [Act.put, List.setIfInBounds_toArray, List.set_cons_zero, List.set_cons_succ, i64_w, i32_w]
            rfl
          refine one_ (i := 6) (N := some 38) #[true, true, true, true, true, true, true, false, false, false, false, false] rfl rfl (by kernel_rfl) (by decide) (fun K hK => ?_)
          have HBW := Aside0.mk (show Below w.heap.size w w1.drew from below_drew HB1.out)
          have HCW := Aside0.mk (Kd.C_below HC.out HBW.out)
          refine goes_ Try.func19 (by kernel_rfl) rfl #[.agg #[.int .i64 m.src, .int .i64 m.dst, .int .i64 m.kind, .int .i64 m.pos, .slice B m.body.length d]] (by rfl) rfl rfl (by simp only [List.map_toArray, List.map_cons, List.map_nil]; rfl) ?_
          with_reducible refine (of_any m B d w1.drew HCW.out hz).mono ?_
          rintro e w5 ⟨v, b, rfl, hR5, hb1, hb2, hb5⟩
          refine ⟨_, rfl, ?_⟩
          obtain ⟨V, vc, hv⟩ := Kd.R_slice hR5
          subst hv
          have HM : Aside0 (kMB.M w5 w1.drew.heap.size (fun k => w1.drew.heap.size ≤ k) (m, b) [.int .i64 m.src, .int .i64 m.dst, .int .i64 m.kind, .int .i64 m.pos, .slice V m.body.length vc]) := ⟨kMB_M.2 ⟨_, rfl, Kd.R_mono (Kd.R_bound hR5) (fun k hk => ⟨hk.2.1, hk.1⟩)⟩⟩
          have N5 := Aside0.mk (PNet.below (w := w1.drew) (PNet.below HN1.out (below_drew (Below.refl _ _))) hb5)
          have B5 := Aside0.mk (below_then HBW.out HBW.out.size hb5)
          have HBB := Lib.hid (And.intro hb1 hb2)
          have HS5 := Lib.hid hb5.size
          have BX5 := Aside0.mk (blk_below (w := w1.drew) BX.out hb5)
          clear hR5 hb1 hb2 hb5
          refine hK.out _ _ ⟨N5.out.f5, blk_cell BX5.out 0, blk_cell BX5.out 1, blk_cell BX5.out 2, blk_cell BX5.out 3, blk_cell BX5.out 4⟩ (fun hHeld => ?_)
          clear hK K
          refine norm_ (a' := ?_) ?_ ?_
          rotate_left
          · show Act.put _ (some 38) _ = _
            simp only [Act.put, List.setIfInBounds_toArray, List.set_cons_zero, List.set_cons_succ, i64_w, i32_w]
            rfl
          refine one_ (i := 7) (N := some 39) #[true, true, true, true, true, true, true, true, false, false, false, false] rfl rfl (by kernel_rfl) (by decide) (fun K hK => ?_)
          refine value_ (w1 := ?_) (v := ?_) (by rfl) rfl ?_ ?_
          rotate_left 2
          · go_simp
            constructor
            · rfl
            · rfl
          have HA6 := Aside0.mk (pw_cell_below (below_alloc (Below.refl w5.heap.size w5) (Obj.cells #[.int .i64 m.src, .int .i64 m.dst, .int .i64 m.kind, .int .i64 m.pos, .slice V m.body.length vc] 32)) N5.out.f5)
          have BX6 := Aside0.mk (blk_alloc' (o' := (Obj.cells #[.int .i64 m.src, .int .i64 m.dst, .int .i64 m.kind, .int .i64 m.pos, .slice V m.body.length vc] 32)) BX5.out)
          refine hK.out _ _ ⟨HA6.out, blk_cell BX6.out 0, blk_cell BX6.out 1, blk_cell BX6.out 2, blk_cell BX6.out 3, blk_cell BX6.out 4⟩ (fun hHeld => ?_)
          clear hK K
          refine norm_ (a' := ?_) ?_ ?_
          rotate_left
          · show Act.put _ (some 39) _ = _
            simp only [Act.put, List.setIfInBounds_toArray, List.set_cons_zero, List.set_cons_succ, i64_w, i32_w]
            rfl
          refine last_ (i := 8) (N := some 40) #[true, true, true, true, true, true, true, true, true, false, false, false] rfl rfl (by kernel_rfl) (by decide) (fun K hK => ?_)
          refine Kd.R_append_step kMB (w0 := w5) base (by rfl) (.tmp 36) (.tmp 39) 29 32 _ 56 rfl Try.underlying29 info32 rfl (by decide) (by omega) _ xs (m, b) [.int .i64 m.src, .int .i64 m.dst, .int .i64 m.kind, .int .i64 m.pos, .slice V m.body.length vc] ok (fun k => w1.drew.heap.size ≤ k) (by rfl) (by rfl) ?aP ?aK ?aF ?aO ?aB ?aS ?aL ?_
          case aP => exact kMB.M_lower (Nat.le_trans hb0 HBW.out.size) HM.out
          case aK => exact fun i hi => ⟨hfr i (Nat.le_trans HBW.out.size hi), fun he => by have h1 := Kd.R_lt HN1.out.row i he.symm; have h3 : w1.drew.heap.size = w1.heap.size := rfl; omega⟩
          case aF => exact fun i hi => hfr i (Nat.le_trans B5.out.size hi)
          case aO => exact N5.out.row
          case aB => exact Below.refl _ _
          case aS => exact Nat.le_trans hb0 B5.out.size
          case aL => have := N5.out.cnt; omega
          intro v7 w7 ho7 hb7 hg7 hat7
          obtain ⟨V7, vc7, hv7⟩ := Kd.R_slice ho7
          rw [List.length_append, List.length_singleton] at hv7
          subst hv7
          have hO7 := Aside0.mk ho7
          have hp7 : w7.heap[p]? = _ := (hg7.block p (blk_lt N5.out.blk) (fun he => N5.out.pok (N5.out.row.1 p he.symm))).trans N5.out.blk
          have HP7 := Aside0.mk hp7
          have HM7 : Aside0 (Mod w5 w7 ok) := ⟨⟨hb7.os, hb7.tape, hb7.output, hg7.size, fun i hi hn => hg7.block i hi (fun he => hn (N5.out.row.1 i he.symm))⟩⟩
          have BX7 := Aside0.mk ((hg7.block bx (blk_lt BX5.out) (fun he => by have h1 := Kd.R_lt HN0.out.row bx he.symm; have h2 := HBX.out; omega)).trans BX5.out)
          clear ho7 hb7 hg7 hat7 hp7
          refine hK.out _ _ ?_
          clear hK K
          refine norm_ (a' := ?_) ?_ ?_
          rotate_left
          · show Act.put _ (some 40) _ = _
            simp only [Act.put, List.setIfInBounds_toArray, List.set_cons_zero, List.set_cons_succ, i64_w, i32_w]
            rfl
          refine pure_ (i := 9) (N := some 41) (v := ?_) (a' := ?_) #[true, true, true, true, true, true, true, true, true, true, false, false] rfl rfl (by kernel_rfl) (fun _ _ _ h => h) (Or.inl ⟨by rfl, ?_⟩) ?_ ?_
          rotate_left
          · intro w'
            go_simp
            with_reducible rfl
          rotate_left
          · simp only [Act.put, List.setIfInBounds_toArray, List.set_cons_zero, List.set_cons_succ, i64_w, i32_w]
            rfl
          refine pure_ (i := 10) (N := some 42) (v := ?_) (a' := ?_) #[true, true, true, true, true, true, true, true, true, true, true, false] rfl rfl (by kernel_rfl) (fun _ _ _ h => h) (Or.inl ⟨by rfl, ?_⟩) ?_ ?_
          rotate_left
          · intro w'
            go_simp
            with_reducible rfl
          rotate_left
          · simp only [Act.put, List.setIfInBounds_toArray, List.set_cons_zero, List.set_cons_succ, i64_w, i32_w]
            rfl
          refine last_ (i := 11) (N := none) #[true, true, true, true, true, true, true, true, true, true, true, true] rfl rfl (by kernel_rfl) (by decide) (fun K hK => ?_)
          have z1 := blk_cell HP7.out 5
          have z2 := blk_frozen HP7.out 5
          refine skip_ (w1 := ?_) (by rfl) rfl ?_ ?_
          rotate_left
          · go_simp
            rfl
          refine hK.out _ _ ?_
          clear hK K
          refine done_ (by kernel_rfl) ?_
          have HP8 := Aside0.mk (blk_put HP7.out 5 (.slice V7 (xs.length + 1) vc7) rfl)
          have hR8 := R_set hO7.out p 5 (.slice V7 (xs.length + 1) vc7) HN1.out.pok
          have hM8 := HM7.out.mono (S' := fun k => k = p ∨ ok k) (fun _ h => .inr h)
          have hM9 := hM8.trans ((mod_setCell w7 p 5 (.slice V7 (xs.length + 1) vc7)).mono (fun _ h => .inl h))
          have hMw := (Mod.of_below (S := fun k => k = p ∨ ok k) B5.out).trans hM9
          obtain ⟨w8, hw8⟩ : ∃ u, u = w7.setCell ⟨p, 5, none⟩ (.slice V7 (xs.length + 1) vc7) := ⟨_, rfl⟩
          have hs8 : w7.heap.size = w8.heap.size := by rw [hw8, setCell_size]
          rw [← hw8] at hR8 hMw ⊢
          have hp8 := HP8.out
          rw [← hw8] at hp8
          have HR8 := Aside0.mk hR8
          have HMW := Aside0.mk hMw
          have HS8 := Lib.hid (show w5.heap.size ≤ w8.heap.size from by have := HM7.out.size; omega)
          have HP := Aside0.mk hp8
          have k0 : w8.cell? ⟨p, 0, none⟩ = some (.int .i64 n.sent) := blk_cell hp8 0
          have k1 : w8.frozen? ⟨p, 0, none⟩ = false := blk_frozen hp8 0
          clear hM8 hM9 hMw hR8 hp8 hw8 hs8 z1 z2 hHeld x0 x1 x2 x3 x4 hf5
          go_wp2_with fail
          go_ret
          have hR9 := R_set HR8.out p 0 (.int .i64 (n.sent + 1)) HN1.out.pok
          refine ⟨?_, ⟨V7, vc7, xs ++ [(m, b)], ⟨?_, ?_, ?_, ?_, ?_, HN1.out.pb, HN1.out.pok, ?_, ?_⟩⟩, ?_⟩
          · rw [show n.send m = (0, { n with l := n.l ++ [m], sent := n.sent + 1 }) from send_ok HNO.out h5]
            rfl
          · rw [show n.send m = (0, { n with l := n.l ++ [m], sent := n.sent + 1 }) from send_ok HNO.out h5]
            have h := blk_put HP.out 0 (.int .i64 (n.sent + 1)) rfl
            rw [List.length_append]
            exact h
          · rw [List.length_append]
            exact hR9
          · rw [show n.send m = (0, { n with l := n.l ++ [m], sent := n.sent + 1 }) from send_ok HNO.out h5, List.map_append, ← HN1.out.fst]
            rfl
          · rw [List.map_append, show [(m, b)].map Prod.snd = [b] from rfl]
            exact nodup_app HN1.out.nodup (fun h => by obtain ⟨x, hx, hxb⟩ := List.mem_map.1 h; have := HN1.out.lt x hx; have := HBB.out.1; have h3 : w1.drew.heap.size = w1.heap.size := rfl; omega)
          · intro x hx
            rw [setCell_size]
            rcases List.mem_append.1 hx with hx | hx
            · have h1 := N5.out.lt x hx; have := HS8.out; omega
            · rw [List.mem_singleton.1 hx]; have := HBB.out.2; have := HS8.out; show b < _; omega
          · rw [List.length_append, List.length_singleton]; omega
          · intro x hx
            rcases List.mem_append.1 hx with hx | hx
            · exact HN1.out.bd x hx
            · rw [List.mem_singleton.1 hx]; exact hz
          · exact HMW.out.trans ((mod_setCell w8 p 0 _).mono (fun _ h => .inl h))
theorem double_no1 {n : NS} {i : Int} (h : ¬ n.isAt i) : n.double i = (1, n) := if_pos h
theorem double_no2 {n : NS} {i : Int} (h : n.isAt i) (h2 : 1000 ≤ n.l.length) : n.double i = (2, n) := by unfold NS.double; rw [if_neg (not_not_intro h), if_pos h2]
theorem double_ok {n : NS} {i : Int} {m : Msg} (h : n.isAt i) (h2 : ¬ 1000 ≤ n.l.length) (hm : n.l.getD i.toNat default = m) : n.double i = (0, { n with l := n.l ++ [m], doubled := n.doubled + 1 }) := by unfold NS.double; rw [if_neg (not_not_intro h), if_neg h2, hm]
set_option maxRecDepth 100000 in
set_option maxHeartbeats 8000000 in
theorem double_any (n : NS) (A : Option Addr) (c : Nat) (xs : List (Msg × Nat)) (base p : Nat) (ok : Nat → Prop) (i : Int) (w : World) (hN : PNet w base p ok n A c xs) (hb0 : base ≤ w.heap.size) (hfr : ∀ k, w.heap.size ≤ k → ok k)
    (hs : 0 ≤ n.doubled ∧ n.doubled < 4611686018427387904) :
    Calls Try.prog 11 #[.pointer (some ⟨p, 0, none⟩), .int .i64 i] w (PStep base p ok (.int .i64 (n.double i).1) (n.double i).2 w) := by
  have HN1 := Aside0.mk hN
  have hll : xs.length = n.l.length := by rw [hN.fst, List.length_map]
  have HLL := Lib.hid hll
  have HS := Lib.hid hs
  have hf5 := hN.f5
  clear hN hll hs
  go_enter Try.func11, Try.ntmps11
  go_wp2_with fail
  refine (there_any n A xs.length c p i w HN1.out.blk).mono ?_
  rintro e w' ⟨rfl, hw'⟩
  subst hw'
  by_cases h1 : inR i xs.length
  case neg =>
    rw [decide_eq_false h1]
    go_wp2_with fail
    go_ret
    have h2 : ¬ n.isAt i := by unfold NS.isAt; unfold inR at h1; rw [← HLL.out]; exact h1
    exact ⟨by rw [double_no1 h2]; rfl, ⟨A, c, xs, by rw [double_no1 h2]; exact HN1.out⟩, Mod.refl _ _⟩
  case pos =>
    rw [decide_eq_true h1]
    have hat : n.isAt i := by unfold NS.isAt; unfold inR at h1; rw [← HLL.out]; exact h1
    have HAT := Lib.hid hat
    obtain ⟨k, rfl⟩ := Int.eq_ofNat_of_zero_le h1.1
    have hk : k < xs.length := by have := h1.2; omega
    clear hat h1
    by_cases h4 : 1000 ≤ xs.length
    case pos =>
      have p4 : (1000 : Int) ≤ xs.length := by omega
      go_wp2_with fail
      go_ret
      have h5 : 1000 ≤ n.l.length := by have := HLL.out; omega
      exact ⟨by rw [double_no2 HAT.out h5]; rfl, ⟨A, c, xs, by rw [double_no2 HAT.out h5]; exact HN1.out⟩, Mod.refl _ _⟩
    case neg =>
      have p4 : ¬ (1000 : Int) ≤ xs.length := by omega
      have h5 : ¬ 1000 ≤ n.l.length := by have := HLL.out; omega
      have hs1 := HS.out.1
      have hs2 := HS.out.2
      obtain ⟨ad, m, B, d, rfl, hm, hmm, _, x0, x1, x2, x3, x4, hl, hC⟩ := msg_at (kMB_C (Kd.R_reads' HN1.out.row).2.2) (Below.refl _ _) k hk
      have hz : m.body.length * 16 ≤ 140737488355328 := by obtain ⟨y, hy, rfl⟩ := List.mem_map.1 hmm; exact HN1.out.bd y hy
      have HM0 := Lib.hid (show n.l.getD (Int.toNat (k : Int)) default = m from by rw [Int.toNat_natCast, HN1.out.fst]; exact hm)
      have HC := Aside0.mk hC
      have p5 : (0 : Int) ≤ k := by omega
      have p6 : (k : Int) < xs.length := by omega
      clear hm hmm hl hC
      go_wp2_with fail
      refine start_ (n := 18) (S := fun w' => w'.cell? ⟨p, 5, none⟩ = some (.slice (some ad) xs.length c) ∧ w'.cell? (ad.add (k * 5)) = some (.int .i64 m.src) ∧ w'.cell? { block := (ad.add (k * 5)).block, off := (ad.add (k * 5)).off + 1 } = some (.int .i64 m.dst) ∧ w'.cell? { block := (ad.add (k * 5)).block, off := (ad.add (k * 5)).off + 2 } = some (.int .i64 m.kind) ∧ w'.cell? { block := (ad.add (k * 5)).block, off := (ad.add (k * 5)).off + 3 } = some (.int .i64 m.pos) ∧ w'.cell? { block := (ad.add (k * 5)).block, off := (ad.add (k * 5)).off + 4 } = some (.slice B m.body.length d)) (ds := [14, 17]) #[false, false, false, false, false, false, false, false, false, false, false, false, false, false, false, false, false, false] (by kernel_rfl) rfl rfl ⟨hf5, x0, x1, x2, x3, x4⟩ (fun hHeld => ?_)
      refine pure_ (i := 0) (N := some 17) (v := ?_) (a' := ?_) #[true, false, false, false, false, false, false, false, false, false, false, false, false, false, false, false, false, false] rfl rfl (by kernel_rfl) (fun _ _ _ h => h) (Or.inl ⟨by rfl, ?_⟩) ?_ ?_
      rotate_left
      · intro w'
        go_simp
        with_reducible rfl
      rotate_left
      · simp only [Act.put, List.setIfInBounds_toArray, List.set_cons_zero, List.set_cons_succ, i64_w, i32_w]
        rfl
      refine pure_ (i := 1) (N := some 18) (v := ?_) (a' := ?_) #[true, true, false, false, false, false, false, false, false, false, false, false, false, false, false, false, false, false] rfl rfl (by kernel_rfl) (fun _ _ _ h => h) (Or.inl ⟨by rfl, ?_⟩) ?_ ?_
      rotate_left
      · intro w'
        go_simp
        with_reducible rfl
      rotate_left
      · simp only [Act.put, List.setIfInBounds_toArray, List.set_cons_zero, List.set_cons_succ, i64_w, i32_w]
        rfl
      refine pure_ (i := 2) (N := some 19) (v := ?_) (a' := ?_) #[true, true, true, false, false, false, false, false, false, false, false, false, false, false, false, false, false, false] rfl rfl (by kernel_rfl) (fun _ _ _ h => h) (Or.inl ⟨by rfl, ?_⟩) ?_ ?_
      rotate_left
      · intro w'
        go_simp
        with_reducible rfl
      rotate_left
      · simp only [Act.put, List.setIfInBounds_toArray, List.set_cons_zero, List.set_cons_succ, i64_w, i32_w]
        rfl
      refine pure_ (i := 3) (N := some 20) (v := ?_) (a' := ?_) #[true, true, true, true, false, false, false, false, false, false, false, false, false, false, false, false, false, false] rfl rfl (by kernel_rfl) (fun _ _ _ h => h) (Or.inl ⟨by rfl, ?_⟩) ?_ ?_
      rotate_left
      · intro w'
        go_simp
        with_reducible rfl
      rotate_left
      · simp only [Act.put, List.setIfInBounds_toArray, List.set_cons_zero, List.set_cons_succ, i64_w, i32_w]
        rfl
      refine pure_ (i := 5) (N := some 22) (v := ?_) (a' := ?_) #[true, true, true, true, false, true, false, false, false, false, false, false, false, false, false, false, false, false] rfl rfl (by kernel_rfl) (fun _ _ _ h => h) (Or.inl ⟨by rfl, ?_⟩) ?_ ?_
      rotate_left
      · intro w'
        go_simp
        with_reducible rfl
      rotate_left
      · simp only [Act.put, List.setIfInBounds_toArray, List.set_cons_zero, List.set_cons_succ, i64_w, i32_w]
        rfl
      refine pure_ (i := 6) (N := some 23) (v := ?_) (a' := ?_) #[true, true, true, true, false, true, true, false, false, false, false, false, false, false, false, false, false, false] rfl rfl (by kernel_rfl) (fun _ _ _ h => h) (Or.inl ⟨by rfl, ?_⟩) ?_ ?_
      rotate_left
      · intro w'
        go_simp
        with_reducible rfl
      rotate_left
      · simp only [Act.put, List.setIfInBounds_toArray, List.set_cons_zero, List.set_cons_succ, i64_w, i32_w]
        rfl
      refine pure_ (i := 7) (N := some 24) (v := ?_) (a' := ?_) #[true, true, true, true, false, true, true, true, false, false, false, false, false, false, false, false, false, false] rfl rfl (by kernel_rfl) (fun _ _ _ h => h) (Or.inl ⟨by rfl, ?_⟩) ?_ ?_
      rotate_left
      · intro w'
        go_simp
        with_reducible rfl
      rotate_left
      · simp only [Act.put, List.setIfInBounds_toArray, List.set_cons_zero, List.set_cons_succ, i64_w, i32_w]
        rfl
      refine pure_ (i := 9) (N := some 26) (v := ?_) (a' := ?_) #[true, true, true, true, false, true, true, true, false, true, false, false, false, false, false, false, false, false] rfl rfl (by kernel_rfl) (fun _ _ _ h => h) (Or.inl ⟨by rfl, ?_⟩) ?_ ?_
      rotate_left
      · intro w'
        go_simp
        with_reducible rfl
      rotate_left
      · simp only [Act.put, List.setIfInBounds_toArray, List.set_cons_zero, List.set_cons_succ, i64_w, i32_w]
        rfl
      refine take_ (i := 4) (N := some 21) (v := ?_) (a' := ?_) #[true, true, true, true, true, true, true, true, false, true, false, false, false, false, false, false, false, false] rfl rfl (by kernel_rfl) (fun _ _ _ h => h) (Or.inl ⟨by rfl, ?_⟩) hHeld ?_ ?_
      rotate_left
      · rintro w' ⟨s0, s1, s2, s3, s4, s5⟩
        go_simp
        with_reducible rfl
      rotate_left
      · simp only [Act.put, List.setIfInBounds_toArray, List.set_cons_zero, List.set_cons_succ, i64_w, i32_w]
        rfl
      refine take_ (i := 8) (N := some 25) (v := ?_) (a' := ?_) #[true, true, true, true, true, true, true, true, true, true, false, false, false, false, false, false, false, false] rfl rfl (by kernel_rfl) (fun _ _ _ h => h) (Or.inl ⟨by rfl, ?_⟩) hHeld ?_ ?_
      rotate_left
      · rintro w' ⟨s0, s1, s2, s3, s4, s5⟩
        go_simp
        with_reducible rfl
      rotate_left
      · simp only [Act.put, List.setIfInBounds_toArray, List.set_cons_zero, List.set_cons_succ, i64_w, i32_w]
        rfl
      refine pure_ (i := 10) (N := some 27) (v := ?_) (a' := ?_) #[true, true, true, true, true, true, true, true, true, true, true, false, false, false, false, false, false, false] rfl rfl (by kernel_rfl) (fun _ _ _ h => h) (Or.inl ⟨by rfl, ?_⟩) ?_ ?_
      rotate_left
      · intro w'
        go_simp
        with_reducible rfl
      rotate_left
      · simp only [Act.put, List.setIfInBounds_toArray, List.set_cons_zero, List.set_cons_succ, i64_w, i32_w]
        rfl
      refine take_ (i := 11) (N := some 28) (v := ?_) (a' := ?_) #[true, true, true, true, true, true, true, true, true, true, true, true, false, false, false, false, false, false] rfl rfl (by kernel_rfl) (fun _ _ _ h => h) (Or.inl ⟨by rfl, ?_⟩) hHeld ?_ ?_
      rotate_left
      · rintro w' ⟨s0, s1, s2, s3, s4, s5⟩
        go_simp
        with_reducible rfl
      rotate_left
      · simp only [Act.put, List.setIfInBounds_toArray, List.set_cons_zero, List.set_cons_succ, i64_w, i32_w]
        rfl
      refine one_ (i := 12) (N := some 29) #[true, true, true, true, true, true, true, true, true, true, true, true, true, false, false, false, false, false] rfl rfl (by kernel_rfl) (by decide) (fun K hK => ?_)
      have HBW := Aside0.mk (show Below w'.heap.size w' w'.drew from below_drew (Below.refl w'.heap.size w'))
      have HCW := Aside0.mk (Kd.C_below HC.out HBW.out)
      refine goes_ Try.func19 (by kernel_rfl) rfl #[.agg #[.int .i64 m.src, .int .i64 m.dst, .int .i64 m.kind, .int .i64 m.pos, .slice B m.body.length d]] (by rfl) rfl rfl (by simp only [List.map_toArray, List.map_cons, List.map_nil]; rfl) ?_
      with_reducible refine (of_any m B d w'.drew HCW.out hz).mono ?_
      rintro e w5 ⟨v, b, rfl, hR5, hb1, hb2, hb5⟩
      refine ⟨_, rfl, ?_⟩
      obtain ⟨V, vc, hv⟩ := Kd.R_slice hR5
      subst hv
      have HM : Aside0 (kMB.M w5 w'.drew.heap.size (fun k => w'.drew.heap.size ≤ k) (m, b) [.int .i64 m.src, .int .i64 m.dst, .int .i64 m.kind, .int .i64 m.pos, .slice V m.body.length vc]) := ⟨kMB_M.2 ⟨_, rfl, Kd.R_mono (Kd.R_bound hR5) (fun k hk => ⟨hk.2.1, hk.1⟩)⟩⟩
      have N5 := Aside0.mk (PNet.below (w := w'.drew) (PNet.below HN1.out (below_drew (Below.refl _ _))) hb5)
      have B5 := Aside0.mk (below_then HBW.out HBW.out.size hb5)
      have HBB := Lib.hid (And.intro hb1 hb2)
      have HS5 := Lib.hid hb5.size
      clear hR5 hb1 hb2 hb5
      refine hK.out _ _ ⟨N5.out.f5, pw_cell_below (B5.out) x0, pw_cell_below (B5.out) x1, pw_cell_below (B5.out) x2, pw_cell_below (B5.out) x3, pw_cell_below (B5.out) x4⟩ (fun hHeld => ?_)
      clear hK K
      refine norm_ (a' := ?_) ?_ ?_
      rotate_left
      · show Act.put _ (some 29) _ = _
        simp only [Act.put, List.setIfInBounds_toArray, List.set_cons_zero, List.set_cons_succ, i64_w, i32_w]
        rfl
      refine one_ (i := 13) (N := some 30) #[true, true, true, true, true, true, true, true, true, true, true, true, true, true, false, false, false, false] rfl rfl (by kernel_rfl) (by decide) (fun K hK => ?_)
      refine value_ (w1 := ?_) (v := ?_) (by rfl) rfl ?_ ?_
      rotate_left 2
      · go_simp
        constructor
        · rfl
        · rfl
      have HA6 := Aside0.mk (pw_cell_below (below_alloc (Below.refl w5.heap.size w5) (Obj.cells #[.int .i64 m.src, .int .i64 m.dst, .int .i64 m.kind, .int .i64 m.pos, .slice V m.body.length vc] 32)) N5.out.f5)
      refine hK.out _ _ ⟨HA6.out, pw_cell_below (below_alloc B5.out _) x0, pw_cell_below (below_alloc B5.out _) x1, pw_cell_below (below_alloc B5.out _) x2, pw_cell_below (below_alloc B5.out _) x3, pw_cell_below (below_alloc B5.out _) x4⟩ (fun hHeld => ?_)
      clear hK K
      refine norm_ (a' := ?_) ?_ ?_
      rotate_left
      · show Act.put _ (some 30) _ = _
        simp only [Act.put, List.setIfInBounds_toArray, List.set_cons_zero, List.set_cons_succ, i64_w, i32_w]
        rfl
      refine last_ (i := 14) (N := some 31) #[true, true, true, true, true, true, true, true, true, true, true, true, true, true, true, false, false, false] rfl rfl (by kernel_rfl) (by decide) (fun K hK => ?_)
      refine Kd.R_append_step kMB (w0 := w5) base (by rfl) (.tmp 21) (.tmp 30) 29 32 _ 56 rfl Try.underlying29 info32 rfl (by decide) (by omega) _ xs (m, b) [.int .i64 m.src, .int .i64 m.dst, .int .i64 m.kind, .int .i64 m.pos, .slice V m.body.length vc] ok (fun k => w'.drew.heap.size ≤ k) (by rfl) (by rfl) ?aP ?aK ?aF ?aO ?aB ?aS ?aL ?_
      case aP => exact kMB.M_lower (Nat.le_trans hb0 HBW.out.size) HM.out
      case aK => exact fun i hi => ⟨hfr i (Nat.le_trans HBW.out.size hi), fun he => by have h1 := Kd.R_lt HN1.out.row i he.symm; have h3 : w'.drew.heap.size = w'.heap.size := rfl; omega⟩
      case aF => exact fun i hi => hfr i (Nat.le_trans B5.out.size hi)
      case aO => exact N5.out.row
      case aB => exact Below.refl _ _
      case aS => exact Nat.le_trans hb0 B5.out.size
      case aL => have := N5.out.cnt; omega
      intro v7 w7 ho7 hb7 hg7 hat7
      obtain ⟨V7, vc7, hv7⟩ := Kd.R_slice ho7
      rw [List.length_append, List.length_singleton] at hv7
      subst hv7
      have hO7 := Aside0.mk ho7
      have hp7 : w7.heap[p]? = _ := (hg7.block p (blk_lt N5.out.blk) (fun he => N5.out.pok (N5.out.row.1 p he.symm))).trans N5.out.blk
      have HP7 := Aside0.mk hp7
      have HM7 : Aside0 (Mod w5 w7 ok) := ⟨⟨hb7.os, hb7.tape, hb7.output, hg7.size, fun i hi hn => hg7.block i hi (fun he => hn (N5.out.row.1 i he.symm))⟩⟩
      clear ho7 hb7 hg7 hat7 hp7
      refine hK.out _ _ ?_
      clear hK K
      refine norm_ (a' := ?_) ?_ ?_
      rotate_left
      · show Act.put _ (some 31) _ = _
        simp only [Act.put, List.setIfInBounds_toArray, List.set_cons_zero, List.set_cons_succ, i64_w, i32_w]
        rfl
      refine pure_ (i := 15) (N := some 32) (v := ?_) (a' := ?_) #[true, true, true, true, true, true, true, true, true, true, true, true, true, true, true, true, false, false] rfl rfl (by kernel_rfl) (fun _ _ _ h => h) (Or.inl ⟨by rfl, ?_⟩) ?_ ?_
      rotate_left
      · intro w'
        go_simp
        with_reducible rfl
      rotate_left
      · simp only [Act.put, List.setIfInBounds_toArray, List.set_cons_zero, List.set_cons_succ, i64_w, i32_w]
        rfl
      refine pure_ (i := 16) (N := some 33) (v := ?_) (a' := ?_) #[true, true, true, true, true, true, true, true, true, true, true, true, true, true, true, true, true, false] rfl rfl (by kernel_rfl) (fun _ _ _ h => h) (Or.inl ⟨by rfl, ?_⟩) ?_ ?_
      rotate_left
      · intro w'
        go_simp
        with_reducible rfl
      rotate_left
      · simp only [Act.put, List.setIfInBounds_toArray, List.set_cons_zero, List.set_cons_succ, i64_w, i32_w]
        rfl
      refine last_ (i := 17) (N := none) #[true, true, true, true, true, true, true, true, true, true, true, true, true, true, true, true, true, true] rfl rfl (by kernel_rfl) (by decide) (fun K hK => ?_)
      have z1 := blk_cell HP7.out 5
      have z2 := blk_frozen HP7.out 5
      refine skip_ (w1 := ?_) (by rfl) rfl ?_ ?_
      rotate_left
      · go_simp
        rfl
      refine hK.out _ _ ?_
      clear hK K
      refine done_ (by kernel_rfl) ?_
      have HP8 := Aside0.mk (blk_put HP7.out 5 (.slice V7 (xs.length + 1) vc7) rfl)
      have hR8 := R_set hO7.out p 5 (.slice V7 (xs.length + 1) vc7) HN1.out.pok
      have hM8 := HM7.out.mono (S' := fun k => k = p ∨ ok k) (fun _ h => .inr h)
      have hM9 := hM8.trans ((mod_setCell w7 p 5 (.slice V7 (xs.length + 1) vc7)).mono (fun _ h => .inl h))
      have hMw := (Mod.of_below (S := fun k => k = p ∨ ok k) B5.out).trans hM9
      obtain ⟨w8, hw8⟩ : ∃ u, u = w7.setCell ⟨p, 5, none⟩ (.slice V7 (xs.length + 1) vc7) := ⟨_, rfl⟩
      have hs8 : w7.heap.size = w8.heap.size := by rw [hw8, setCell_size]
      rw [← hw8] at hR8 hMw ⊢
      have hp8 := HP8.out
      rw [← hw8] at hp8
      have HR8 := Aside0.mk hR8
      have HMW := Aside0.mk hMw
      have HS8 := Lib.hid (show w5.heap.size ≤ w8.heap.size from by have := HM7.out.size; omega)
      have HP := Aside0.mk hp8
      have k0 : w8.cell? ⟨p, 1, none⟩ = some (.int .i64 n.doubled) := blk_cell hp8 1
      have k1 : w8.frozen? ⟨p, 1, none⟩ = false := blk_frozen hp8 1
      clear hM8 hM9 hMw hR8 hp8 hw8 hs8 z1 z2 hHeld x0 x1 x2 x3 x4 hf5
      go_wp2_with fail
      go_ret
      have hR9 := R_set HR8.out p 1 (.int .i64 (n.doubled + 1)) HN1.out.pok
      refine ⟨?_, ⟨V7, vc7, xs ++ [(m, b)], ⟨?_, ?_, ?_, ?_, ?_, HN1.out.pb, HN1.out.pok, ?_, ?_⟩⟩, ?_⟩
      · rw [show n.double k = (0, { n with l := n.l ++ [m], doubled := n.doubled + 1 }) from double_ok HAT.out h5 HM0.out]
        rfl
      · rw [show n.double k = (0, { n with l := n.l ++ [m], doubled := n.doubled + 1 }) from double_ok HAT.out h5 HM0.out]
        have h := blk_put HP.out 1 (.int .i64 (n.doubled + 1)) rfl
        rw [List.length_append]
        exact h
      · rw [List.length_append]
        exact hR9
      · rw [show n.double k = (0, { n with l := n.l ++ [m], doubled := n.doubled + 1 }) from double_ok HAT.out h5 HM0.out, List.map_append, ← HN1.out.fst]
        rfl
      · rw [List.map_append, show [(m, b)].map Prod.snd = [b] from rfl]
        exact nodup_app HN1.out.nodup (fun h => by obtain ⟨x, hx, hxb⟩ := List.mem_map.1 h; have := HN1.out.lt x hx; have := HBB.out.1; have h3 : w'.drew.heap.size = w'.heap.size := rfl; omega)
      · intro x hx
        rw [setCell_size]
        rcases List.mem_append.1 hx with hx | hx
        · have h1 := N5.out.lt x hx; have := HS8.out; omega
        · rw [List.mem_singleton.1 hx]; have := HBB.out.2; have := HS8.out; show b < _; omega
      · rw [List.length_append, List.length_singleton]; omega
      · intro x hx
        rcases List.mem_append.1 hx with hx | hx
        · exact HN1.out.bd x hx
        · rw [List.mem_singleton.1 hx]; exact hz
      · exact HMW.out.trans ((mod_setCell w8 p 1 _).mono (fun _ h => .inl h))
end Go.Proofs.Ytlnneaccgfakeaa
