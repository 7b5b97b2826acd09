/- Layer 23: the walks of the reference's Send, Double. -/
import Derived.Test.YtlnneaccgfakeaaK9
set_option linter.unusedVariables false
set_option linter.unusedSimpArgs false
namespace Go.Proofs.Ytlnneaccgfakeaa
open Go.RowKit Go.Proofs.YtlnneaccgfakeaaW.PrintWords Go.Proofs.YtlnneaccgfakeaaW.PrintLast
theorem RNet.f1 {w : World} {base p : Nat} {ok : Nat → Prop} {n : NS} {A : Option Addr} {c : Nat} (h : RNet w base p ok n A c) : w.cell? ⟨p, 1, none⟩ = some (.slice A n.l.length c) := blk_cell h.blk 1
set_option maxRecDepth 100000 in
set_option maxHeartbeats 8000000 in
theorem rsend_any (n : NS) (A : Option Addr) (c : Nat) (base p : Nat) (ok : Nat → Prop) (m : Msg) (B : Option Addr) (d : Nat) (w : World) (hN : RNet w base p ok n A c) (hb0 : base ≤ w.heap.size) (hfr : ∀ k, w.heap.size ≤ k → ok k)
    (hC : Kd.string.C w B m.body.length m.body) (hz : m.body.length * 16 ≤ 140737488355328) (hs : 0 ≤ n.sent ∧ n.sent < 4611686018427387904) :
    Calls Try.prog 23 #[.pointer (some ⟨p, 0, none⟩), .agg #[.int .i64 m.src, .int .i64 m.dst, .int .i64 m.kind, .int .i64 m.pos, .slice B m.body.length d]] w (RStep base p ok (.int .i64 (n.send m).1) (n.send m).2 w) := by
  obtain ⟨bx, hbx⟩ : ∃ q, q = w.heap.size := ⟨_, rfl⟩
  obtain ⟨WC, h1, b1, s1, B1⟩ := grow (W := w) hbx.symm #[.int .i64 m.src, .int .i64 m.dst, .int .i64 m.kind, .int .i64 m.pos, .slice B m.body.length d] 32
  have HBX := Lib.hid hbx
  have HNC := Aside0.mk (hN.below B1)
  have HBC := Aside0.mk B1
  have HCC := Aside0.mk (Kd.C_below hC B1)
  have BX := Aside0.mk b1
  have H1 := Lib.hid h1
  have HS := Lib.hid hs
  have x0 : WC.cell? ⟨bx, 0, none⟩ = some (.int .i64 m.src) := blk_cell b1 0
  have x1 : WC.cell? ⟨bx, 1, none⟩ = some (.int .i64 m.dst) := blk_cell b1 1
  have hf0 : WC.cell? ⟨p, 0, none⟩ = some (.int .i64 n.nodes) := blk_cell HNC.out.blk 0
  clear hC h1 s1 B1 b1 hs hN hbx
  go_enter Try.func23, Try.ntmps23
  go_wp2_with (rw [← H1.out, ← HBX.out])
  by_cases c1 : m.src < 0
  case pos =>
    have hno : ¬ n.isNode m.src ∨ ¬ n.isNode m.dst ∨ m.src = m.dst := .inl (fun h => by have := h.1; omega)
    have HNO := Lib.hid hno
    clear hno
    go_wp2_with fail
    go_quiet (fail)
    go_wp2_with fail
    go_ret
    exact ⟨by rw [send_no1 HNO.out]; rfl, ⟨A, c, by rw [send_no1 HNO.out]; exact HNC.out.below (pw_below_drewN (Below.refl _ _) _)⟩, (Mod.of_below HBC.out).drewN _⟩
  by_cases c2 : n.nodes ≤ m.src
  case pos =>
    have hno : ¬ n.isNode m.src ∨ ¬ n.isNode m.dst ∨ m.src = m.dst := .inl (fun h => by have := h.2; omega)
    have HNO := Lib.hid hno
    clear hno
    go_wp2_with fail
    go_quiet (fail)
    go_wp2_with fail
    go_ret
    exact ⟨by rw [send_no1 HNO.out]; rfl, ⟨A, c, by rw [send_no1 HNO.out]; exact HNC.out.below (pw_below_drewN (Below.refl _ _) _)⟩, (Mod.of_below HBC.out).drewN _⟩
  by_cases c3 : m.dst < 0
  case pos =>
    have hno : ¬ n.isNode m.src ∨ ¬ n.isNode m.dst ∨ m.src = m.dst := .inr (.inl (fun h => by have := h.1; omega))
    have HNO := Lib.hid hno
    clear hno
    go_wp2_with fail
    go_quiet (fail)
    go_wp2_with fail
    go_ret
    exact ⟨by rw [send_no1 HNO.out]; rfl, ⟨A, c, by rw [send_no1 HNO.out]; exact HNC.out.below (pw_below_drewN (Below.refl _ _) _)⟩, (Mod.of_below HBC.out).drewN _⟩
  by_cases c4 : n.nodes ≤ m.dst
  case pos =>
    have hno : ¬ n.isNode m.src ∨ ¬ n.isNode m.dst ∨ m.src = m.dst := .inr (.inl (fun h => by have := h.2; omega))
    have HNO := Lib.hid hno
    clear hno
    go_wp2_with fail
    go_quiet (fail)
    go_wp2_with fail
    go_ret
    exact ⟨by rw [send_no1 HNO.out]; rfl, ⟨A, c, by rw [send_no1 HNO.out]; exact HNC.out.below (pw_below_drewN (Below.refl _ _) _)⟩, (Mod.of_below HBC.out).drewN _⟩
  by_cases c5 : m.src = m.dst
  case pos =>
    have p5 := int_beq_true c5
    have hno : ¬ n.isNode m.src ∨ ¬ n.isNode m.dst ∨ m.src = m.dst := .inr (.inr c5)
    have HNO := Lib.hid hno
    clear hno c5
    go_wp2_with fail
    go_quiet (fail)
    go_wp2_with fail
    go_ret
    exact ⟨by rw [send_no1 HNO.out]; rfl, ⟨A, c, by rw [send_no1 HNO.out]; exact HNC.out.below (pw_below_drewN (Below.refl _ _) _)⟩, (Mod.of_below HBC.out).drewN _⟩
  have p5 := int_beq_false c5
  have hno : ¬ (¬ n.isNode m.src ∨ ¬ n.isNode m.dst ∨ m.src = m.dst) := by rintro (h | h | h); exact h ⟨by omega, by omega⟩; exact h ⟨by omega, by omega⟩; exact c5 h
  have HNO := Lib.hid hno
  clear hno c5
  go_wp2_with fail
  go_quiet (fail)
  obtain ⟨WD, hwd⟩ : ∃ u, u = WC.drewN nq := ⟨_, rfl⟩
  rw [← hwd]
  have HND := Aside0.mk (show RNet WD base p ok n A c from by rw [hwd]; exact HNC.out.below (pw_below_drewN (Below.refl _ _) _))
  have HBD := Aside0.mk (show Below w.heap.size w WD from by rw [hwd]; exact pw_below_drewN HBC.out _)
  have HCD := Aside0.mk (show Kd.string.C WD B m.body.length m.body from by rw [hwd]; exact Kd.C_below HCC.out (pw_below_drewN (Below.refl _ _) _))
  have BD := Aside0.mk (show WD.heap[bx]? = some (.cells #[.int .i64 m.src, .int .i64 m.dst, .int .i64 m.kind, .int .i64 m.pos, .slice B m.body.length d] 32 (0, 0)) from by rw [hwd]; exact BX.out)
  clear hwd x0 x1 hf0
  have hf1D := HND.out.f1
  by_cases h4 : 1000 ≤ n.l.length
  case pos =>
    have p4 : (1000 : Int) ≤ n.l.length := by omega
    go_wp2_with fail
    go_ret
    exact ⟨by rw [send_no2 HNO.out h4]; rfl, ⟨A, c, by rw [send_no2 HNO.out h4]; exact HND.out⟩, Mod.of_below HBD.out⟩
  case neg =>
    have p4 : ¬ (1000 : Int) ≤ n.l.length := by omega
    have hs1 := HS.out.1
    have hs2 := HS.out.2
    have x0 : WD.cell? ⟨bx, 0, none⟩ = some (.int .i64 m.src) := blk_cell BD.out 0
    have x1 : WD.cell? ⟨bx, 1, none⟩ = some (.int .i64 m.dst) := blk_cell BD.out 1
    have x2 : WD.cell? ⟨bx, 2, none⟩ = some (.int .i64 m.kind) := blk_cell BD.out 2
    have x3 : WD.cell? ⟨bx, 3, none⟩ = some (.int .i64 m.pos) := blk_cell BD.out 3
    have x4 : WD.cell? ⟨bx, 4, none⟩ = some (.slice B m.body.length d) := blk_cell BD.out 4
    go_wp2_with fail
    clear x0 x1 x2 x3 x4 hf1D c1 c2 c3 c4 p5
    refine (Of_any m B d WD HCD.out hz).mono ?_
    rintro e w5 ⟨v, b, rfl, hR5, hb1, hb2, hb5⟩
    obtain ⟨V, vc, hv⟩ := Kd.R_slice hR5
    subst hv
    have HM : Aside0 (kMsg.M w5 WD.heap.size (fun k => WD.heap.size ≤ k) m [.int .i64 m.src, .int .i64 m.dst, .int .i64 m.kind, .int .i64 m.pos, .slice V m.body.length vc]) := ⟨kMsg_M.2 ⟨_, rfl, Kd.R_mono (Kd.R_bound hR5) (fun k hk => hk.2.1)⟩⟩
    have HB5 := Aside0.mk (below_then HBD.out HBD.out.size hb5)
    have N5 := Aside0.mk (HND.out.below hb5)
    have HSC := Lib.hid hb5.size
    obtain ⟨b5, hb5e⟩ : ∃ q, q = w5.heap.size := ⟨_, rfl⟩
    obtain ⟨W6, h6, c6, s6, B6⟩ := grow (W := w5) hb5e.symm #[.int .i64 m.src, .int .i64 m.dst, .int .i64 m.kind, .int .i64 m.pos, .slice V m.body.length vc] 32
    have N6 := Aside0.mk (N5.out.below B6)
    have HB6 := Aside0.mk (below_then HB5.out HB5.out.size B6)
    have HM6 := Aside0.mk (Kd.M_below HM.out (show Below w5.heap.size w5 W6.drew from below_drew B6))
    have C6 := Aside0.mk c6
    have H6 := Lib.hid h6
    have HB5E := Lib.hid hb5e
    have HSZ6 := Lib.hid B6.size
    clear hR5 hb1 hb2 hb5 hb5e h6 c6 s6 B6
    go_wp2_with fail
    rw [← H6.out, ← HB5E.out]
    have hf1 := N6.out.f1
    have y0 : W6.cell? ⟨b5, 0, none⟩ = some (.int .i64 m.src) := blk_cell C6.out 0
    have y1 : W6.cell? ⟨b5, 1, none⟩ = some (.int .i64 m.dst) := blk_cell C6.out 1
    have y2 : W6.cell? ⟨b5, 2, none⟩ = some (.int .i64 m.kind) := blk_cell C6.out 2
    have y3 : W6.cell? ⟨b5, 3, none⟩ = some (.int .i64 m.pos) := blk_cell C6.out 3
    have y4 : W6.cell? ⟨b5, 4, none⟩ = some (.slice V m.body.length vc) := blk_cell C6.out 4
    refine start_ (n := 11) (S := fun w' => w'.cell? ⟨p, 1, none⟩ = some (.slice A n.l.length c) ∧ w'.cell? ⟨b5, 0, none⟩ = some (.int .i64 m.src) ∧ w'.cell? ⟨b5, 1, none⟩ = some (.int .i64 m.dst) ∧ w'.cell? ⟨b5, 2, none⟩ = some (.int .i64 m.kind) ∧ w'.cell? ⟨b5, 3, none⟩ = some (.int .i64 m.pos) ∧ w'.cell? ⟨b5, 4, none⟩ = some (.slice V m.body.length vc)) (ds := [7, 10]) #[false, false, false, false, false, false, false, false, false, false, false] (by kernel_rfl) rfl rfl ⟨hf1, y0, y1, y2, y3, y4⟩ (fun hHeld => ?_)
    refine pure_ (i := 0) (N := some 47) (v := ?_) (a' := ?_) #[true, false, false, false, false, false, false, false, false, false, false] rfl rfl (by kernel_rfl) (fun _ _ _ h => h) (Or.inl ⟨by rfl, ?_⟩) ?_ ?_
    rotate_left
    · intro w'
      go_simp
      with_reducible rfl
    rotate_left
    · simp only [Act.put, List.setIfInBounds_toArray, List.set_cons_zero, List.set_cons_succ, i64_w, i32_w]
      rfl
    refine pure_ (i := 1) (N := some 48) (v := ?_) (a' := ?_) #[true, true, false, false, false, false, false, false, false, false, false] rfl rfl (by kernel_rfl) (fun _ _ _ h => h) (Or.inl ⟨by rfl, ?_⟩) ?_ ?_
    rotate_left
    · intro w'
      go_simp
      with_reducible rfl
    rotate_left
    · simp only [Act.put, List.setIfInBounds_toArray, List.set_cons_zero, List.set_cons_succ, i64_w, i32_w]
      rfl
    refine pure_ (i := 2) (N := some 49) (v := ?_) (a' := ?_) #[true, true, true, false, false, false, false, false, false, false, false] rfl rfl (by kernel_rfl) (fun _ _ _ h => h) (Or.inl ⟨by rfl, ?_⟩) ?_ ?_
    rotate_left
    · intro w'
      go_simp
      with_reducible rfl
    rotate_left
    · simp only [Act.put, List.setIfInBounds_toArray, List.set_cons_zero, List.set_cons_succ, i64_w, i32_w]
      rfl
    refine pure_ (i := 3) (N := some 50) (v := ?_) (a' := ?_) #[true, true, true, true, false, false, false, false, false, false, false] rfl rfl (by kernel_rfl) (fun _ _ _ h => h) (Or.inl ⟨by rfl, ?_⟩) ?_ ?_
    rotate_left
    · intro w'
      go_simp
      with_reducible rfl
    rotate_left
    · simp only [Act.put, List.setIfInBounds_toArray, List.set_cons_zero, List.set_cons_succ, i64_w, i32_w]
      rfl
    refine take_ (i := 4) (N := some 51) (v := ?_) (a' := ?_) #[true, true, true, true, true, false, false, false, false, false, false] rfl rfl (by kernel_rfl) (fun _ _ _ h => h) (Or.inl ⟨by rfl, ?_⟩) hHeld ?_ ?_
    rotate_left
    · rintro w' ⟨s0, s1, s2, s3, s4, s5⟩
      go_simp
      with_reducible rfl
    rotate_left
    · simp only [Act.put, List.setIfInBounds_toArray, List.set_cons_zero, List.set_cons_succ, i64_w, i32_w]
      rfl
    refine take_ (i := 5) (N := some 52) (v := ?_) (a' := ?_) #[true, true, true, true, true, true, false, false, false, false, false] rfl rfl (by kernel_rfl) (fun _ _ _ h => h) (Or.inl ⟨by rfl, ?_⟩) hHeld ?_ ?_
    rotate_left
    · rintro w' ⟨s0, s1, s2, s3, s4, s5⟩
      go_simp
      with_reducible rfl
    rotate_left
    · simp only [Act.put, List.setIfInBounds_toArray, List.set_cons_zero, List.set_cons_succ, i64_w, i32_w]
      rfl
    refine one_ (i := 6) (N := some 53) #[true, true, true, true, true, true, true, false, false, false, false] rfl rfl (by kernel_rfl) (by decide) (fun K hK => ?_)
    refine value_ (w1 := ?_) (v := ?_) (by rfl) rfl ?_ ?_
    rotate_left 2
    · go_simp
      constructor
      · rfl
      · rfl
    have hal : Below W6.heap.size W6 (W6.drew.alloc (Obj.cells #[.int .i64 m.src, .int .i64 m.dst, .int .i64 m.kind, .int .i64 m.pos, .slice V m.body.length vc] 32)) := below_alloc (below_drew (Below.refl _ _)) _
    refine hK.out _ _ ⟨pw_cell_below hal hf1, pw_cell_below hal y0, pw_cell_below hal y1, pw_cell_below hal y2, pw_cell_below hal y3, pw_cell_below hal y4⟩ (fun hHeld => ?_)
    clear hK K
    refine norm_ (a' := ?_) ?_ ?_
    rotate_left
    · show Act.put _ (some 53) _ = _
      simp only [Act.put, List.setIfInBounds_toArray, List.set_cons_zero, List.set_cons_succ, i64_w, i32_w]
      rfl
    refine last_ (i := 7) (N := some 54) #[true, true, true, true, true, true, true, true, false, false, false] rfl rfl (by kernel_rfl) (by decide) (fun K hK => ?_)
    rw [show (W6.alloc (Obj.cells #[.int .i64 m.src, .int .i64 m.dst, .int .i64 m.kind, .int .i64 m.pos, .slice V m.body.length vc] 32)).drew = W6.drew.alloc (Obj.cells #[.int .i64 m.src, .int .i64 m.dst, .int .i64 m.kind, .int .i64 m.pos, .slice V m.body.length vc] 32) from rfl]
    refine Kd.R_append_step kMsg (w0 := W6.drew) base (by rfl) (.tmp 51) (.tmp 53) 29 32 _ 56 rfl Try.underlying29 info32 rfl (by decide) (by omega) _ n.l m [.int .i64 m.src, .int .i64 m.dst, .int .i64 m.kind, .int .i64 m.pos, .slice V m.body.length vc] ok (fun k => WD.heap.size ≤ k) (by rfl) (by rfl) ?aP ?aK ?aF ?aO ?aB ?aS ?aL ?_
    case aP => exact kMsg.M_lower (Nat.le_trans hb0 HBD.out.size) HM6.out
    case aK => exact fun i hi => ⟨hfr i (Nat.le_trans HBD.out.size hi), fun he => by have h1 := Kd.R_lt HND.out.row i he.symm; omega⟩
    case aF => exact fun i hi => hfr i (Nat.le_trans HB6.out.size hi)
    case aO => exact N6.out.row
    case aB => exact Below.refl _ _
    case aS => exact Nat.le_trans hb0 HB6.out.size
    case aL => have := N6.out.cnt; omega
    intro v7 w7 ho7 hb7 hg7 hat7
    obtain ⟨V7, vc7, hv7⟩ := Kd.R_slice ho7
    rw [List.length_append, List.length_singleton] at hv7
    subst hv7
    have hO7 := Aside0.mk ho7
    have hp7 : w7.heap[p]? = _ := (hg7.block p (blk_lt N6.out.blk) (fun he => N6.out.pok (N6.out.row.1 p he.symm))).trans N6.out.blk
    have HP7 := Aside0.mk hp7
    have HM7 : Aside0 (Mod W6.drew w7 ok) := ⟨⟨hb7.os, hb7.tape, hb7.output, hg7.size, fun i hi hn => hg7.block i hi (fun he => hn (N6.out.row.1 i he.symm))⟩⟩
    clear ho7 hb7 hg7 hat7 hp7
    refine hK.out _ _ ?_
    clear hK K
    refine norm_ (a' := ?_) ?_ ?_
    rotate_left
    · show Act.put _ (some 54) _ = _
      simp only [Act.put, List.setIfInBounds_toArray, List.set_cons_zero, List.set_cons_succ, i64_w, i32_w]
      rfl
    refine pure_ (i := 8) (N := some 55) (v := ?_) (a' := ?_) #[true, true, true, true, true, true, true, true, true, false, false] rfl rfl (by kernel_rfl) (fun _ _ _ h => h) (Or.inl ⟨by rfl, ?_⟩) ?_ ?_
    rotate_left
    · intro w'
      go_simp
      with_reducible rfl
    rotate_left
    · simp only [Act.put, List.setIfInBounds_toArray, List.set_cons_zero, List.set_cons_succ, i64_w, i32_w]
      rfl
    refine pure_ (i := 9) (N := some 56) (v := ?_) (a' := ?_) #[true, true, true, true, true, true, true, true, true, true, false] rfl rfl (by kernel_rfl) (fun _ _ _ h => h) (Or.inl ⟨by rfl, ?_⟩) ?_ ?_
    rotate_left
    · intro w'
      go_simp
      with_reducible rfl
    rotate_left
    · simp only [Act.put, List.setIfInBounds_toArray, List.set_cons_zero, List.set_cons_succ, i64_w, i32_w]
      rfl
    refine last_ (i := 10) (N := none) #[true, true, true, true, true, true, true, true, true, true, true] rfl rfl (by kernel_rfl) (by decide) (fun K hK => ?_)
    have z1 := blk_cell HP7.out 1
    have z2 := blk_frozen HP7.out 1
    refine skip_ (w1 := ?_) (by rfl) rfl ?_ ?_
    rotate_left
    · go_simp
      rfl
    refine hK.out _ _ ?_
    clear hK K
    refine done_ (by kernel_rfl) ?_
    have HP8 := Aside0.mk (blk_put HP7.out 1 (.slice V7 (n.l.length + 1) vc7) rfl)
    have hR8 := R_set hO7.out p 1 (.slice V7 (n.l.length + 1) vc7) N6.out.pok
    have hM9 := (HM7.out.mono (S' := fun k => k = p ∨ ok k) (fun _ h => .inr h)).trans ((mod_setCell w7 p 1 (.slice V7 (n.l.length + 1) vc7)).mono (fun _ h => .inl h))
    have hMw := (Mod.of_below (S := fun k => k = p ∨ ok k) (show Below w.heap.size w W6.drew from below_drew HB6.out)).trans hM9
    obtain ⟨w8, hw8⟩ : ∃ u, u = w7.setCell ⟨p, 1, none⟩ (.slice V7 (n.l.length + 1) vc7) := ⟨_, rfl⟩
    rw [← hw8] at hR8 hMw ⊢
    have hp8 := HP8.out
    rw [← hw8] at hp8
    have HR8 := Aside0.mk hR8
    have HMW := Aside0.mk hMw
    have HP := Aside0.mk hp8
    have k0 : w8.cell? ⟨p, 2, none⟩ = some (.int .i64 n.sent) := blk_cell hp8 2
    have k1 : w8.frozen? ⟨p, 2, none⟩ = false := blk_frozen hp8 2
    clear hM9 hMw hR8 hp8 hw8 z1 z2 hHeld y0 y1 y2 y3 y4 hf1
    go_wp2_with fail
    go_ret
    have hR9 := R_set HR8.out p 2 (.int .i64 (n.sent + 1)) N6.out.pok
    refine ⟨?_, ⟨V7, vc7, ?_⟩, HMW.out.trans ((mod_setCell w8 p 2 _).mono (fun _ h => .inl h))⟩
    · rw [show n.send m = (0, { n with l := n.l ++ [m], sent := n.sent + 1 }) from send_ok HNO.out h4]
      rfl
    rw [show n.send m = (0, { n with l := n.l ++ [m], sent := n.sent + 1 }) from send_ok HNO.out h4]
    refine ⟨?_, ?_, N6.out.pb, N6.out.pok, ?_, ?_⟩
    · have h := blk_put HP.out 2 (.int .i64 (n.sent + 1)) rfl
      show _ = some (Obj.cells #[.int .i64 n.nodes, .slice V7 (n.l ++ [m]).length vc7, _, _, _, _] 59 (0, 0))
      rw [List.length_append]
      exact h
    · show kMsg.R 32 _ base ok (.slice V7 (n.l ++ [m]).length vc7) (n.l ++ [m])
      rw [List.length_append]
      exact hR9
    · show (n.l ++ [m]).length ≤ 1000
      rw [List.length_append, List.length_singleton]; omega
    · intro x hx
      rcases List.mem_append.1 hx with hx | hx
      · exact N6.out.bd x hx
      · rw [List.mem_singleton.1 hx]; exact hz
set_option maxRecDepth 100000 in
set_option maxHeartbeats 8000000 in
theorem rdouble_any (n : NS) (A : Option Addr) (c : Nat) (base p : Nat) (ok : Nat → Prop) (i : Int) (w : World) (hN : RNet w base p ok n A c) (hb0 : base ≤ w.heap.size) (hfr : ∀ k, w.heap.size ≤ k → ok k)
    (hs : 0 ≤ n.doubled ∧ n.doubled < 4611686018427387904) :
    Calls Try.prog 26 #[.pointer (some ⟨p, 0, none⟩), .int .i64 i] w (RStep base p ok (.int .i64 (n.double i).1) (n.double i).2 w) := by
  have HNC := Aside0.mk hN
  have HS := Lib.hid hs
  have hf1 := hN.f1
  clear hN hs
  go_enter Try.func26, Try.ntmps26
  by_cases c1 : i < 0
  case pos =>
    have hno : ¬ n.isAt i := fun h => by have := h.1; omega
    have HNO := Lib.hid hno
    clear hno
    go_wp2_with fail
    go_ret
    exact ⟨by rw [double_no1 HNO.out]; rfl, ⟨A, c, by rw [double_no1 HNO.out]; exact HNC.out⟩, Mod.refl _ _⟩
  by_cases c2 : (n.l.length : Int) ≤ i
  case pos =>
    have hno : ¬ n.isAt i := fun h => by have := h.2; omega
    have HNO := Lib.hid hno
    clear hno
    go_wp2_with fail
    go_ret
    exact ⟨by rw [double_no1 HNO.out]; rfl, ⟨A, c, by rw [double_no1 HNO.out]; exact HNC.out⟩, Mod.refl _ _⟩
  have hat : n.isAt i := ⟨by omega, by omega⟩
  have HAT := Lib.hid hat
  obtain ⟨k, rfl⟩ := Int.eq_ofNat_of_zero_le hat.1
  have hk : k < n.l.length := by omega
  clear hat
  by_cases h4 : 1000 ≤ n.l.length
  case pos =>
    have p4 : (1000 : Int) ≤ n.l.length := by omega
    go_wp2_with fail
    go_ret
    exact ⟨by rw [double_no2 HAT.out h4]; rfl, ⟨A, c, by rw [double_no2 HAT.out h4]; exact HNC.out⟩, Mod.refl _ _⟩
  case neg =>
    have p4 : ¬ (1000 : Int) ≤ n.l.length := by omega
    have hs1 := HS.out.1
    have hs2 := HS.out.2
    obtain ⟨ad, m, B, d, rfl, hm, hmm, _, x0, x1, x2, x3, x4, hl, hC⟩ := msg_at (Kd.R_reads' HNC.out.row).2.2 (Below.refl _ _) k hk
    have hz : m.body.length * 16 ≤ 140737488355328 := HNC.out.bd m hmm
    have HM0 := Lib.hid (show n.l.getD (Int.toNat (k : Int)) default = m from by rw [Int.toNat_natCast]; exact hm)
    have HCC := Aside0.mk hC
    have HBC := Aside0.mk (Below.refl w.heap.size w)
    have p5 : (0 : Int) ≤ k := by omega
    have p6 : (k : Int) < n.l.length := by omega
    clear hm hmm hl hC
    go_wp2_with fail
    clear x0 x1 x2 x3 x4 hf1
    refine (Of_any m B d w HCC.out hz).mono ?_
    rintro e w5 ⟨v, b, rfl, hR5, hb1, hb2, hb5⟩
    obtain ⟨V, vc, hv⟩ := Kd.R_slice hR5
    subst hv
    have HM : Aside0 (kMsg.M w5 w.heap.size (fun k => w.heap.size ≤ k) m [.int .i64 m.src, .int .i64 m.dst, .int .i64 m.kind, .int .i64 m.pos, .slice V m.body.length vc]) := ⟨kMsg_M.2 ⟨_, rfl, Kd.R_mono (Kd.R_bound hR5) (fun k hk => hk.2.1)⟩⟩
    have HB5 := Aside0.mk (below_then HBC.out HBC.out.size hb5)
    have N5 := Aside0.mk (HNC.out.below hb5)
    have HSC := Lib.hid hb5.size
    obtain ⟨b5, hb5e⟩ : ∃ q, q = w5.heap.size := ⟨_, rfl⟩
    obtain ⟨W6, h6, c6, s6, B6⟩ := grow (W := w5) hb5e.symm #[.int .i64 m.src, .int .i64 m.dst, .int .i64 m.kind, .int .i64 m.pos, .slice V m.body.length vc] 32
    have N6 := Aside0.mk (N5.out.below B6)
    have HB6 := Aside0.mk (below_then HB5.out HB5.out.size B6)
    have HM6 := Aside0.mk (Kd.M_below HM.out (show Below w5.heap.size w5 W6.drew from below_drew B6))
    have C6 := Aside0.mk c6
    have H6 := Lib.hid h6
    have HB5E := Lib.hid hb5e
    have HSZ6 := Lib.hid B6.size
    clear hR5 hb1 hb2 hb5 hb5e h6 c6 s6 B6
    go_wp2_with fail
    rw [← H6.out, ← HB5E.out]
    have hf1 := N6.out.f1
    have y0 : W6.cell? ⟨b5, 0, none⟩ = some (.int .i64 m.src) := blk_cell C6.out 0
    have y1 : W6.cell? ⟨b5, 1, none⟩ = some (.int .i64 m.dst) := blk_cell C6.out 1
    have y2 : W6.cell? ⟨b5, 2, none⟩ = some (.int .i64 m.kind) := blk_cell C6.out 2
    have y3 : W6.cell? ⟨b5, 3, none⟩ = some (.int .i64 m.pos) := blk_cell C6.out 3
    have y4 : W6.cell? ⟨b5, 4, none⟩ = some (.slice V m.body.length vc) := blk_cell C6.out 4
    refine start_ (n := 11) (S := fun w' => w'.cell? ⟨p, 1, none⟩ = some (.slice (some ad) n.l.length c) ∧ w'.cell? ⟨b5, 0, none⟩ = some (.int .i64 m.src) ∧ w'.cell? ⟨b5, 1, none⟩ = some (.int .i64 m.dst) ∧ w'.cell? ⟨b5, 2, none⟩ = some (.int .i64 m.kind) ∧ w'.cell? ⟨b5, 3, none⟩ = some (.int .i64 m.pos) ∧ w'.cell? ⟨b5, 4, none⟩ = some (.slice V m.body.length vc)) (ds := [7, 10]) #[false, false, false, false, false, false, false, false, false, false, false] (by kernel_rfl) rfl rfl ⟨hf1, y0, y1, y2, y3, y4⟩ (fun hHeld => ?_)
    refine pure_ (i := 0) (N := some 31) (v := ?_) (a' := ?_) #[true, false, false, false, false, false, false, false, false, false, false] rfl rfl (by kernel_rfl) (fun _ _ _ h => h) (Or.inl ⟨by rfl, ?_⟩) ?_ ?_
    rotate_left
    · intro w'
      go_simp
      with_reducible rfl
    rotate_left
    · simp only [Act.put, List.setIfInBounds_toArray, List.set_cons_zero, List.set_cons_succ, i64_w, i32_w]
      rfl
    refine pure_ (i := 1) (N := some 32) (v := ?_) (a' := ?_) #[true, true, false, false, false, false, false, false, false, false, false] rfl rfl (by kernel_rfl) (fun _ _ _ h => h) (Or.inl ⟨by rfl, ?_⟩) ?_ ?_
    rotate_left
    · intro w'
      go_simp
      with_reducible rfl
    rotate_left
    · simp only [Act.put, List.setIfInBounds_toArray, List.set_cons_zero, List.set_cons_succ, i64_w, i32_w]
      rfl
    refine pure_ (i := 2) (N := some 33) (v := ?_) (a' := ?_) #[true, true, true, false, false, false, false, false, false, false, false] rfl rfl (by kernel_rfl) (fun _ _ _ h => h) (Or.inl ⟨by rfl, ?_⟩) ?_ ?_
    rotate_left
    · intro w'
      go_simp
      with_reducible rfl
    rotate_left
    · simp only [Act.put, List.setIfInBounds_toArray, List.set_cons_zero, List.set_cons_succ, i64_w, i32_w]
      rfl
    refine pure_ (i := 3) (N := some 34) (v := ?_) (a' := ?_) #[true, true, true, true, false, false, false, false, false, false, false] rfl rfl (by kernel_rfl) (fun _ _ _ h => h) (Or.inl ⟨by rfl, ?_⟩) ?_ ?_
    rotate_left
    · intro w'
      go_simp
      with_reducible rfl
    rotate_left
    · simp only [Act.put, List.setIfInBounds_toArray, List.set_cons_zero, List.set_cons_succ, i64_w, i32_w]
      rfl
    refine take_ (i := 4) (N := some 35) (v := ?_) (a' := ?_) #[true, true, true, true, true, false, false, false, false, false, false] rfl rfl (by kernel_rfl) (fun _ _ _ h => h) (Or.inl ⟨by rfl, ?_⟩) hHeld ?_ ?_
    rotate_left
    · rintro w' ⟨s0, s1, s2, s3, s4, s5⟩
      go_simp
      with_reducible rfl
    rotate_left
    · simp only [Act.put, List.setIfInBounds_toArray, List.set_cons_zero, List.set_cons_succ, i64_w, i32_w]
      rfl
    refine take_ (i := 5) (N := some 36) (v := ?_) (a' := ?_) #[true, true, true, true, true, true, false, false, false, false, false] rfl rfl (by kernel_rfl) (fun _ _ _ h => h) (Or.inl ⟨by rfl, ?_⟩) hHeld ?_ ?_
    rotate_left
    · rintro w' ⟨s0, s1, s2, s3, s4, s5⟩
      go_simp
      with_reducible rfl
    rotate_left
    · simp only [Act.put, List.setIfInBounds_toArray, List.set_cons_zero, List.set_cons_succ, i64_w, i32_w]
      rfl
    refine one_ (i := 6) (N := some 37) #[true, true, true, true, true, true, true, false, false, false, false] rfl rfl (by kernel_rfl) (by decide) (fun K hK => ?_)
    refine value_ (w1 := ?_) (v := ?_) (by rfl) rfl ?_ ?_
    rotate_left 2
    · go_simp
      constructor
      · rfl
      · rfl
    have hal : Below W6.heap.size W6 (W6.drew.alloc (Obj.cells #[.int .i64 m.src, .int .i64 m.dst, .int .i64 m.kind, .int .i64 m.pos, .slice V m.body.length vc] 32)) := below_alloc (below_drew (Below.refl _ _)) _
    refine hK.out _ _ ⟨pw_cell_below hal hf1, pw_cell_below hal y0, pw_cell_below hal y1, pw_cell_below hal y2, pw_cell_below hal y3, pw_cell_below hal y4⟩ (fun hHeld => ?_)
    clear hK K
    refine norm_ (a' := ?_) ?_ ?_
    rotate_left
    · show Act.put _ (some 37) _ = _
      simp only [Act.put, List.setIfInBounds_toArray, List.set_cons_zero, List.set_cons_succ, i64_w, i32_w]
      rfl
    refine last_ (i := 7) (N := some 38) #[true, true, true, true, true, true, true, true, false, false, false] rfl rfl (by kernel_rfl) (by decide) (fun K hK => ?_)
    rw [show (W6.alloc (Obj.cells #[.int .i64 m.src, .int .i64 m.dst, .int .i64 m.kind, .int .i64 m.pos, .slice V m.body.length vc] 32)).drew = W6.drew.alloc (Obj.cells #[.int .i64 m.src, .int .i64 m.dst, .int .i64 m.kind, .int .i64 m.pos, .slice V m.body.length vc] 32) from rfl]
    refine Kd.R_append_step kMsg (w0 := W6.drew) base (by rfl) (.tmp 35) (.tmp 37) 29 32 _ 56 rfl Try.underlying29 info32 rfl (by decide) (by omega) _ n.l m [.int .i64 m.src, .int .i64 m.dst, .int .i64 m.kind, .int .i64 m.pos, .slice V m.body.length vc] ok (fun k => w.heap.size ≤ k) (by rfl) (by rfl) ?aP ?aK ?aF ?aO ?aB ?aS ?aL ?_
    case aP => exact kMsg.M_lower (Nat.le_trans hb0 HBC.out.size) HM6.out
    case aK => exact fun i hi => ⟨hfr i (Nat.le_trans HBC.out.size hi), fun he => by have h1 := Kd.R_lt HNC.out.row i he.symm; omega⟩
    case aF => exact fun i hi => hfr i (Nat.le_trans HB6.out.size hi)
    case aO => exact N6.out.row
    case aB => exact Below.refl _ _
    case aS => exact Nat.le_trans hb0 HB6.out.size
    case aL => have := N6.out.cnt; omega
    intro v7 w7 ho7 hb7 hg7 hat7
    obtain ⟨V7, vc7, hv7⟩ := Kd.R_slice ho7
    rw [List.length_append, List.length_singleton] at hv7
    subst hv7
    have hO7 := Aside0.mk ho7
    have hp7 : w7.heap[p]? = _ := (hg7.block p (blk_lt N6.out.blk) (fun he => N6.out.pok (N6.out.row.1 p he.symm))).trans N6.out.blk
    have HP7 := Aside0.mk hp7
    have HM7 : Aside0 (Mod W6.drew w7 ok) := ⟨⟨hb7.os, hb7.tape, hb7.output, hg7.size, fun i hi hn => hg7.block i hi (fun he => hn (N6.out.row.1 i he.symm))⟩⟩
    clear ho7 hb7 hg7 hat7 hp7
    refine hK.out _ _ ?_
    clear hK K
    refine norm_ (a' := ?_) ?_ ?_
    rotate_left
    · show Act.put _ (some 38) _ = _
      simp only [Act.put, List.setIfInBounds_toArray, List.set_cons_zero, List.set_cons_succ, i64_w, i32_w]
      rfl
    refine pure_ (i := 8) (N := some 39) (v := ?_) (a' := ?_) #[true, true, true, true, true, true, true, true, true, false, false] rfl rfl (by kernel_rfl) (fun _ _ _ h => h) (Or.inl ⟨by rfl, ?_⟩) ?_ ?_
    rotate_left
    · intro w'
      go_simp
      with_reducible rfl
    rotate_left
    · simp only [Act.put, List.setIfInBounds_toArray, List.set_cons_zero, List.set_cons_succ, i64_w, i32_w]
      rfl
    refine pure_ (i := 9) (N := some 40) (v := ?_) (a' := ?_) #[true, true, true, true, true, true, true, true, true, true, false] rfl rfl (by kernel_rfl) (fun _ _ _ h => h) (Or.inl ⟨by rfl, ?_⟩) ?_ ?_
    rotate_left
    · intro w'
      go_simp
      with_reducible rfl
    rotate_left
    · simp only [Act.put, List.setIfInBounds_toArray, List.set_cons_zero, List.set_cons_succ, i64_w, i32_w]
      rfl
    refine last_ (i := 10) (N := none) #[true, true, true, true, true, true, true, true, true, true, true] rfl rfl (by kernel_rfl) (by decide) (fun K hK => ?_)
    have z1 := blk_cell HP7.out 1
    have z2 := blk_frozen HP7.out 1
    refine skip_ (w1 := ?_) (by rfl) rfl ?_ ?_
    rotate_left
    · go_simp
      rfl
    refine hK.out _ _ ?_
    clear hK K
    refine done_ (by kernel_rfl) ?_
    have HP8 := Aside0.mk (blk_put HP7.out 1 (.slice V7 (n.l.length + 1) vc7) rfl)
    have hR8 := R_set hO7.out p 1 (.slice V7 (n.l.length + 1) vc7) N6.out.pok
    have hM9 := (HM7.out.mono (S' := fun k => k = p ∨ ok k) (fun _ h => .inr h)).trans ((mod_setCell w7 p 1 (.slice V7 (n.l.length + 1) vc7)).mono (fun _ h => .inl h))
    have hMw := (Mod.of_below (S := fun k => k = p ∨ ok k) (show Below w.heap.size w W6.drew from below_drew HB6.out)).trans hM9
    obtain ⟨w8, hw8⟩ : ∃ u, u = w7.setCell ⟨p, 1, none⟩ (.slice V7 (n.l.length + 1) vc7) := ⟨_, rfl⟩
    rw [← hw8] at hR8 hMw ⊢
    have hp8 := HP8.out
    rw [← hw8] at hp8
    have HR8 := Aside0.mk hR8
    have HMW := Aside0.mk hMw
    have HP := Aside0.mk hp8
    have k0 : w8.cell? ⟨p, 3, none⟩ = some (.int .i64 n.doubled) := blk_cell hp8 3
    have k1 : w8.frozen? ⟨p, 3, none⟩ = false := blk_frozen hp8 3
    clear hM9 hMw hR8 hp8 hw8 z1 z2 hHeld y0 y1 y2 y3 y4 hf1
    go_wp2_with fail
    go_ret
    have hR9 := R_set HR8.out p 3 (.int .i64 (n.doubled + 1)) N6.out.pok
    refine ⟨?_, ⟨V7, vc7, ?_⟩, HMW.out.trans ((mod_setCell w8 p 3 _).mono (fun _ h => .inl h))⟩
    · rw [show n.double k = (0, { n with l := n.l ++ [m], doubled := n.doubled + 1 }) from double_ok HAT.out h4 HM0.out]
      rfl
    rw [show n.double k = (0, { n with l := n.l ++ [m], doubled := n.doubled + 1 }) from double_ok HAT.out h4 HM0.out]
    refine ⟨?_, ?_, N6.out.pb, N6.out.pok, ?_, ?_⟩
    · have h := blk_put HP.out 3 (.int .i64 (n.doubled + 1)) rfl
      show _ = some (Obj.cells #[.int .i64 n.nodes, .slice V7 (n.l ++ [m]).length vc7, _, _, _, _] 59 (0, 0))
      rw [List.length_append]
      exact h
    · show kMsg.R 32 _ base ok (.slice V7 (n.l ++ [m]).length vc7) (n.l ++ [m])
      rw [List.length_append]
      exact hR9
    · show (n.l ++ [m]).length ≤ 1000
      rw [List.length_append, List.length_singleton]; omega
    · intro x hx
      rcases List.mem_append.1 hx with hx | hx
      · exact N6.out.bd x hx
      · rw [List.mem_singleton.1 hx]; exact hz
end Go.Proofs.Ytlnneaccgfakeaa
