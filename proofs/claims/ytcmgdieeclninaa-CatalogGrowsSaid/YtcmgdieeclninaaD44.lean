/- Layer 8: the walk of the reader's proc, the closures of Decode. -/
import Derived.Test.YtcmgdieeclninaaD43
set_option linter.unusedVariables false
set_option linter.unusedSimpArgs false
namespace Go.Proofs.Ytcmgdieeclninaa
open Go.RowKit Go.Proofs.YtcmgdieeclninaaW.PrintWords Go.Proofs.YtcmgdieeclninaaW.PrintLast
set_option maxRecDepth 100000 in
set_option maxHeartbeats 8000000 in
theorem rproc_any (rb : Nat) (s : ByteArray) (b : Bool) (w : World) (h : RS w rb s b) (hs : s.size ≤ 140737488355328) : Calls Try.prog 52 #[.pointer (some ⟨rb, 0, none⟩)] w (ROutB wPrc okPrc vPrc rb s b w) := by
  have hJ := ((TJ.start h).alloc #[.pointer (some ⟨rb, 0, none⟩)] 79).alloc #[.string ⟨#[]⟩, .slice none 0 0, .slice none 0 0, .int .i64 0, .int .i64 0] 34
  have hsz : (w.alloc (Obj.cells #[.pointer (some ⟨rb, 0, none⟩)] 79)).heap.size = w.heap.size + 1 := by simp
  rw [hsz] at hJ
  obtain ⟨W, hW⟩ : ∃ u, u = (w.alloc (Obj.cells #[.pointer (some ⟨rb, 0, none⟩)] 79)).alloc (Obj.cells #[.string ⟨#[]⟩, .slice none 0 0, .slice none 0 0, .int .i64 0, .int .i64 0] 34) := ⟨_, rfl⟩
  have hWs : W.heap.size = w.heap.size + 2 := by rw [hW]; simp
  rw [← hW] at hJ
  have HJ := Aside0.mk hJ
  have HW := Aside0.mk hW.symm
  have hlt := blk_lt h
  have f0 : ((w.alloc (Obj.cells #[.pointer (some ⟨rb, 0, none⟩)] 79)).alloc (Obj.cells #[.string ⟨#[]⟩, .slice none 0 0, .slice none 0 0, .int .i64 0, .int .i64 0] 34)).cell? ⟨w.heap.size, 0, none⟩ = some (.pointer (some ⟨rb, 0, none⟩)) := by rw [← hW]; exact blk_cell hJ.at2 0
  clear hJ hW h hsz
  go_enter Try.func52, Try.ntmps52
  go_wp2_with fail
  rw [HW.out]
  refine (rtext_any rb s b W HJ.out.rs hs).mono ?_
  rintro e w1 ⟨u1, nm, s1, b1, rfl, ⟨rfl, hnm⟩, hR1, hM1, hsz1, hrd1⟩
  have hs1 : s1.size ≤ 140737488355328 := by omega
  have hJ1 := HJ.out.read hR1 hM1
  have hJa := hJ1.alloc #[.string nm, .slice none 0 0, .slice none 0 0, .int .i64 0, .int .i64 0] 34
  obtain ⟨wa, hwa⟩ : ∃ u, u = w1.alloc (Obj.cells #[.string nm, .slice none 0 0, .slice none 0 0, .int .i64 0, .int .i64 0] 34) := ⟨_, rfl⟩
  obtain ⟨tb, htb⟩ : ∃ t, t = w1.heap.size := ⟨_, rfl⟩
  have htbw : w.heap.size + 2 ≤ tb := by rw [htb, ← hWs]; exact hM1.size
  have hwas : wa.heap.size = tb + 1 := by rw [hwa, htb]; simp
  rw [← hwa, ← htb] at hJa
  have f1 : (w1.alloc (Obj.cells #[.string nm, .slice none 0 0, .slice none 0 0, .int .i64 0, .int .i64 0] 34)).cell? ⟨w.heap.size, 0, none⟩ = some (.pointer (some ⟨rb, 0, none⟩)) := by rw [← hwa]; exact blk_cell hJa.at3 0
  have HJa := Aside0.mk hJa
  have RD1 := Lib.hid hrd1
  have HWA := Aside0.mk hwa.symm
  have HTB := Lib.hid htb.symm
  clear hR1 hM1 hsz1 hrd1 hJ1 hJa hwa htb f0 HJ HW
  go_wp2_with fail
  rw [HWA.out, HTB.out]
  refine (many91_any 8 (by decide) #[.pointer (some ⟨tb, 0, none⟩), .pointer (some ⟨w.heap.size, 0, none⟩)] rb s1 b1 wa HJa.out.rs hs1 (MI kPrm 66 wP okP rb tb w.heap.size 34 (fun v => #[.string nm, v, .slice none 0 0, .int .i64 0, .int .i64 0]) wa)
    (MI.start hs1 HJa.out.hd HJa.out.at3 ⟨by omega, by omega, by omega, by omega, by omega, by omega⟩) (fun l0 b0 k w1 s1 hk hI hR => cl91_any rb _ _ nm wa l0 b0 k w1 s1 hk hI hR)).mono ?_
  intro e w2 hm
  obtain ⟨rfl, v1, prms, s2, b2, hC, hs2, hrd2⟩ := MI.many (by decide) hm
  have hJ2 := HJa.out.turn hC.rs hC.md hC.tbx (fun p hp => by simp at hp; rcases hp with rfl | rfl; show w.heap.size + 1 ≠ tb; omega; show w.heap.size ≠ tb; omega)
  obtain ⟨V1, c1, hv1⟩ := Kd.R_slice hC.row
  subst hv1
  have HJ2 := Aside0.mk hJ2
  have HR1 := Aside0.mk hC.row
  have RD2 := Lib.hid hrd2
  have f2 : w2.cell? ⟨w.heap.size, 0, none⟩ = some (.pointer (some ⟨rb, 0, none⟩)) := blk_cell hJ2.at3 0
  have hw2 : wa.heap.size ≤ w2.heap.size := hC.md.size
  clear hm hC hrd2 hJ2 f1 HJa HWA
  go_wp2_with fail
  refine (many92_any 8 (by decide) #[.pointer (some ⟨tb, 0, none⟩), .pointer (some ⟨w.heap.size, 0, none⟩)] rb s2 b2 w2 HJ2.out.rs hs2 (MI Kd.string 9 wT okT rb tb w.heap.size 34 (fun v => #[.string nm, .slice V1 prms.length c1, v, .int .i64 0, .int .i64 0]) w2)
    (MI.start hs2 HJ2.out.hd HJ2.out.at3 ⟨by omega, by omega, by omega, by omega, by omega, by omega⟩) (fun l0 b0 k w1 s1 hk hI hR => cl92_any rb _ _ nm _ w2 l0 b0 k w1 s1 hk hI hR)).mono ?_
  intro e w3 hm
  obtain ⟨rfl, v2, body, s3, b3, hC, hs3, hrd3⟩ := MI.many (by decide) hm
  have hJ3 := HJ2.out.turn hC.rs hC.md hC.tbx (fun p hp => by simp at hp; rcases hp with rfl | rfl; show w.heap.size + 1 ≠ tb; omega; show w.heap.size ≠ tb; omega)
  obtain ⟨V2, c2, hv2⟩ := Kd.R_slice hC.row
  subst hv2
  have J3 := Aside0.mk (hJ3.below (below_drew (Below.refl _ _)))
  have HR1b := Aside0.mk (R_up (N := wa.heap.size) HR1.out (fun q h => h) hC.md (fun i hi => by omega))
  have HR2 := Aside0.mk (Kd.R_mono (ok' := fun q => wa.heap.size ≤ q) hC.row (fun q h => Nat.le_trans hw2 h))
  have RD3 := Lib.hid hrd3
  have hw3 : wa.heap.size ≤ w3.heap.size := Nat.le_trans hw2 hC.md.size
  have f3 : w3.drew.cell? ⟨w.heap.size, 0, none⟩ = some (.pointer (some ⟨rb, 0, none⟩)) := blk_cell J3.out.at3 0
  clear hm hC hrd3 hJ3 f2 HJ2 HR1
  go_wp2_with fail
  refine start_ (n := 8) (S := fun w' => w'.cell? ⟨w.heap.size, 0, none⟩ = some (.pointer (some ⟨rb, 0, none⟩))) (ds := [5, 7]) #[false, false, false, false, false, false, false, false] (by kernel_rfl) rfl rfl (f3) (fun hHeld => ?_)
  refine take_ (i := 0) (N := some 13) (v := ?_) (a' := ?_) #[true, false, false, false, false, false, false, false] rfl rfl (by kernel_rfl) (fun _ _ _ h => h) (Or.inl ⟨by rfl, ?_⟩) hHeld ?_ ?_
  rotate_left
  · intro w' s0
    go_simp
    with_reducible rfl
  rotate_left
  · simp only [Act.put, List.setIfInBounds_toArray, List.set_cons_zero, List.set_cons_succ, i64_w, i32_w]
    rfl
  refine take_ (i := 2) (N := some 15) (v := ?_) (a' := ?_) #[true, false, true, false, false, false, false, false] rfl rfl (by kernel_rfl) (fun _ _ _ h => h) (Or.inl ⟨by rfl, ?_⟩) hHeld ?_ ?_
  rotate_left
  · intro w' s0
    go_simp
    with_reducible rfl
  rotate_left
  · simp only [Act.put, List.setIfInBounds_toArray, List.set_cons_zero, List.set_cons_succ, i64_w, i32_w]
    rfl
  refine one_ (i := 1) (N := some 14) #[true, true, true, false, false, false, false, false] rfl rfl (by kernel_rfl) (by decide) (fun K hK => ?_)
  refine goes_ Try.func85 (by kernel_rfl) rfl #[.pointer (some ⟨rb, 0, none⟩)] (by rfl) rfl rfl (by simp only [List.map_toArray, List.map_cons, List.map_nil]; rfl) ?_
  with_reducible refine (rint_any rb _ _ w3.drew J3.out.rs (by omega)).mono ?_
  rintro e w4 ⟨u4, rows, s4, b4, rfl, ⟨rfl, hv4⟩, hR4, hM4, hsz4, hrd4⟩
  refine ⟨_, rfl, ?_⟩
  have J4 := Aside0.mk (J3.out.read hR4 hM4)
  have RD4 := Lib.hid hrd4
  have M4 := Aside0.mk hM4
  clear hR4 hM4 hrd4
  refine hK.out _ _ (blk_cell J4.out.at3 0) (fun hHeld => ?_)
  clear hK K
  refine norm_ (a' := ?_) ?_ ?_
  rotate_left
  · show Act.put _ (some 14) _ = _
    simp only [Act.put, List.setIfInBounds_toArray, List.set_cons_zero, List.set_cons_succ, i64_w, i32_w]
    rfl
  refine pure_ (i := 4) (N := some 17) (v := ?_) (a' := ?_) #[true, true, true, false, true, false, false, false] rfl rfl (by kernel_rfl) (fun _ _ _ h => h) (Or.inl ⟨by rfl, ?_⟩) ?_ ?_
  rotate_left
  · intro w'
    go_simp
    with_reducible rfl
  rotate_left
  · simp only [Act.put, List.setIfInBounds_toArray, List.set_cons_zero, List.set_cons_succ, i64_w, i32_w]
    rfl
  refine one_ (i := 3) (N := some 16) #[true, true, true, true, true, false, false, false] rfl rfl (by kernel_rfl) (by decide) (fun K hK => ?_)
  refine goes_ Try.func85 (by kernel_rfl) rfl #[.pointer (some ⟨rb, 0, none⟩)] (by rfl) rfl rfl (by simp only [List.map_toArray, List.map_cons, List.map_nil]; rfl) ?_
  with_reducible refine (rint_any rb _ _ w4 J4.out.rs (by omega)).mono ?_
  rintro e w5 ⟨u5, bts, s5, b5, rfl, ⟨rfl, hv5⟩, hR5, hM5, hsz5, hrd5⟩
  refine ⟨_, rfl, ?_⟩
  have J5 := Aside0.mk (J4.out.read hR5 hM5)
  have RD5 := Lib.hid hrd5
  have M5 := Aside0.mk hM5
  clear hR5 hM5 hrd5
  refine hK.out _ _ (blk_cell J5.out.at3 0) (fun hHeld => ?_)
  clear hK K
  refine norm_ (a' := ?_) ?_ ?_
  rotate_left
  · show Act.put _ (some 16) _ = _
    simp only [Act.put, List.setIfInBounds_toArray, List.set_cons_zero, List.set_cons_succ, i64_w, i32_w]
    rfl
  refine last_ (i := 5) (N := none) #[true, true, true, true, true, true, false, false] rfl rfl (by kernel_rfl) (by decide) (fun K hK => ?_)
  have y1 := blk_cell J5.out.hd 3
  have y2 := blk_frozen J5.out.hd 3
  have y3 := blk_cell J5.out.hd 4
  have y4 := blk_frozen J5.out.hd 4
  refine skip_ (w1 := ?_) (by rfl) rfl ?_ ?_
  rotate_left
  · go_simp
    rfl
  refine hK.out _ _ ?_
  clear hK K
  refine pure_ (i := 6) (N := some 18) (v := ?_) (a' := ?_) #[true, true, true, true, true, true, true, false] rfl rfl (by kernel_rfl) (fun _ _ _ h => h) (Or.inl ⟨by rfl, ?_⟩) ?_ ?_
  rotate_left
  · intro w'
    go_simp
    with_reducible rfl
  rotate_left
  · simp only [Act.put, List.setIfInBounds_toArray, List.set_cons_zero, List.set_cons_succ, i64_w, i32_w]
    rfl
  refine last_ (i := 7) (N := none) #[true, true, true, true, true, true, true, true] rfl rfl (by kernel_rfl) (by decide) (fun K hK => ?_)
  refine skip_ (w1 := ?_) (by rfl) rfl ?_ ?_
  rotate_left
  · go_simp
    rfl
  refine hK.out _ _ ?_
  clear hK K
  refine done_ (by kernel_rfl) ?_
  have hJ6 := (J5.out.set 3 (.int .i64 rows) (cs' := #[.string nm, .slice V1 prms.length c1, .slice V2 body.length c2, .int .i64 rows, .int .i64 0]) rfl (fun p hp => by simp at hp; rcases hp with rfl | rfl; show w.heap.size + 1 ≠ tb; omega; show w.heap.size ≠ tb; omega)).set 4 (.int .i64 bts) (cs' := #[.string nm, .slice V1 prms.length c1, .slice V2 body.length c2, .int .i64 rows, .int .i64 bts]) rfl (fun p hp => by simp at hp; rcases hp with rfl | rfl; show w.heap.size + 1 ≠ tb; omega; show w.heap.size ≠ tb; omega)
  have hm6 := (mod_setCell w5 tb 3 (.int .i64 rows)).trans (mod_setCell _ _ 4 (.int .i64 bts))
  have HR1c := Aside0.mk (R_up (N := wa.heap.size) (R_up (N := wa.heap.size) (R_up (N := wa.heap.size) (Kd.R_drew HR1b.out) (fun q h => h) M4.out (fun i hi => by omega)) (fun q h => h) M5.out (fun i hi => by omega)) (fun q h => h) hm6 (fun i hi => by omega))
  have HR2c := Aside0.mk (R_up (N := wa.heap.size) (R_up (N := wa.heap.size) (R_up (N := wa.heap.size) (Kd.R_drew HR2.out) (fun q h => h) M4.out (fun i hi => by omega)) (fun q h => h) M5.out (fun i hi => by omega)) (fun q h => h) hm6 (fun i hi => by omega))
  obtain ⟨w6, hw6⟩ : ∃ u, u = (w5.setCell ⟨tb, 3, none⟩ (.int .i64 rows)).setCell ⟨tb, 4, none⟩ (.int .i64 bts) := ⟨_, rfl⟩
  rw [← hw6]
  rw [← hw6] at hJ6 HR1c HR2c
  have HJ6 := Aside0.mk hJ6
  clear y1 y2 y3 y4 hHeld hm6 hw6 hJ6 f3
  have x0 : w6.cell? ⟨tb, 0, none⟩ = some (.string nm) := blk_cell HJ6.out.hd 0
  have x1 : w6.cell? ⟨tb, 1, none⟩ = some (.slice V1 prms.length c1) := blk_cell HJ6.out.hd 1
  have x2 : w6.cell? ⟨tb, 2, none⟩ = some (.slice V2 body.length c2) := blk_cell HJ6.out.hd 2
  have x3 : w6.cell? ⟨tb, 3, none⟩ = some (.int .i64 rows) := blk_cell HJ6.out.hd 3
  have x4 : w6.cell? ⟨tb, 4, none⟩ = some (.int .i64 bts) := blk_cell HJ6.out.hd 4
  have z0 : w6.cell? ⟨w.heap.size + 1, 0, none⟩ = some (.string ⟨#[]⟩) := blk_cell HJ6.out.at2 0
  have z1 : w6.cell? ⟨w.heap.size + 1, 1, none⟩ = some (.slice none 0 0) := blk_cell HJ6.out.at2 1
  have z2 : w6.cell? ⟨w.heap.size + 1, 2, none⟩ = some (.slice none 0 0) := blk_cell HJ6.out.at2 2
  have z3 : w6.cell? ⟨w.heap.size + 1, 3, none⟩ = some (.int .i64 0) := blk_cell HJ6.out.at2 3
  have z4 : w6.cell? ⟨w.heap.size + 1, 4, none⟩ = some (.int .i64 0) := blk_cell HJ6.out.at2 4
  have k0 : ∀ i, w6.frozen? ⟨w.heap.size + 1, i, none⟩ = false := fun i => blk_frozen HJ6.out.at2 i
  go_wp2_with fail
  have hm := ((((mod_setCell w6 (w.heap.size + 1) 0 (.string nm)).trans (mod_setCell _ _ 1 (.slice V1 prms.length c1))).trans (mod_setCell _ _ 2 (.slice V2 body.length c2))).trans (mod_setCell _ _ 3 (.int .i64 rows))).trans (mod_setCell _ _ 4 (.int .i64 bts))
  have hE := blk_put (cs' := #[.string nm, .slice V1 prms.length c1, .slice V2 body.length c2, .int .i64 rows, .int .i64 bts]) (blk_put (cs' := #[.string nm, .slice V1 prms.length c1, .slice V2 body.length c2, .int .i64 rows, .int .i64 0]) (blk_put (cs' := #[.string nm, .slice V1 prms.length c1, .slice V2 body.length c2, .int .i64 0, .int .i64 0]) (blk_put (cs' := #[.string nm, .slice V1 prms.length c1, .slice none 0 0, .int .i64 0, .int .i64 0]) (blk_put (cs' := #[.string nm, .slice none 0 0, .slice none 0 0, .int .i64 0, .int .i64 0]) HJ6.out.at2 0 (.string nm) rfl) 1 (.slice V1 prms.length c1) rfl) 2 (.slice V2 body.length c2) rfl) 3 (.int .i64 rows) rfl) 4 (.int .i64 bts) rfl
  refine bodyPost_ret (results_cell_row rfl _ _ (w.heap.size + 1) 34 #[.string nm, .slice V1 prms.length c1, .slice V2 body.length c2, .int .i64 rows, .int .i64 bts] (0, 0) _ rfl hE Try.underlying34 rfl (by kernel_rfl)) rfl ?_
  have hrd := (RD1.out.pair (RD2.out.pair (RD3.out.pair (RD4.out.pair RD5.out)))).map (w' := wPrc) (ok' := okPrc) (fun p => (⟨p.1, p.2.1, p.2.2.1, p.2.2.2.1, p.2.2.2.2⟩ : Prc)) (fun t => (t.name, t.params, t.body, t.rows, t.bytes)) rfl (fun _ => rfl) (fun y hy => hy) (fun _ _ => rfl)
  refine ⟨_, ⟨nm, prms, body, rows, bts⟩, s5, b5, rfl, ⟨_, _, rfl, ?_, ?_⟩, blk_mod HJ6.out.rs hm (by omega), HJ6.out.md.then_new hm (fun i hi hq => by omega), by omega, hrd⟩
  · exact Kd.R_mono (Kd.R_lower (R_up (N := wa.heap.size) HR1c.out (fun q h => h) hm (fun i hi => by omega)) (by omega)) (fun _ _ => trivial)
  · exact Kd.R_mono (Kd.R_lower (R_up (N := wa.heap.size) HR2c.out (fun q h => h) hm (fun i hi => by omega)) (by omega)) (fun _ _ => trivial)
set_option maxRecDepth 100000 in
set_option maxHeartbeats 4000000 in
theorem cl49_any (rb tb qb : Nat) (wS : World) (l0 : List Int) (b0 : Bool) (k : Nat) (w1 : World) (s1 : ByteArray) (hk : k < 268435456) (hI : MI kTab 30 wTab okTab rb tb qb 25 (fun v => #[v, .slice none 0 0]) wS l0 b0 k w1 s1 false) (hRS : RS w1 rb s1 false) :
    Calls Try.prog 49 #[.pointer (some ⟨tb, 0, none⟩), .pointer (some ⟨qb, 0, none⟩)] w1 (fun e w2 => e = .returned (.tuple #[]) ∧ ∃ s2 b2, RS w2 rb s2 b2 ∧ MI kTab 30 wTab okTab rb tb qb 25 (fun v => #[v, .slice none 0 0]) wS l0 b0 (k + 1) w2 s2 b2) := by
  obtain ⟨v, xs, hxk, hL, hC, hs⟩ := hI
  obtain ⟨V, vc, hv⟩ := Kd.R_slice hC.row
  subst hv
  have hC1 := hC.read hRS (Mod.refl _ _)
  have C1 := Aside0.mk (hC1.below (below_drew (Below.refl _ _)))
  have HL := Lib.hid hL
  have HXK := Lib.hid hxk
  have hxl : xs.length < 268435456 := by omega
  clear hC hC1 hL hRS hxk
  have q0 : w1.drew.cell? ⟨tb, 0, none⟩ = some (.slice V xs.length vc) := blk_cell C1.out.tbx 0
  have q1 : w1.drew.cell? ⟨qb, 0, none⟩ = some (.pointer (some ⟨rb, 0, none⟩)) := blk_cell C1.out.qbx 0
  go_enter Try.func49, Try.ntmps49
  go_wp2_with fail
  refine start_ (n := 8) (S := fun w' => w'.cell? ⟨tb, 0, none⟩ = some (.slice V xs.length vc) ∧ w'.cell? ⟨qb, 0, none⟩ = some (.pointer (some ⟨rb, 0, none⟩))) (ds := [7]) #[false, false, false, false, false, false, false, false] (by kernel_rfl) rfl rfl ⟨q0, q1⟩ (fun hHeld => ?_)
  refine pure_ (i := 0) (N := some 2) (v := ?_) (a' := ?_) #[true, false, false, false, false, false, false, false] rfl rfl (by kernel_rfl) (fun _ _ _ h => h) (Or.inl ⟨by rfl, ?_⟩) ?_ ?_
  rotate_left
  · intro w'
    go_simp
    with_reducible rfl
  rotate_left
  · simp only [Act.put, List.setIfInBounds_toArray, List.set_cons_zero, List.set_cons_succ, i64_w, i32_w]
    rfl
  refine take_ (i := 1) (N := some 3) (v := ?_) (a' := ?_) #[true, true, false, false, false, false, false, false] rfl rfl (by kernel_rfl) (fun _ _ _ h => h) (Or.inl ⟨by rfl, ?_⟩) hHeld ?_ ?_
  rotate_left
  · rintro w' ⟨s0, s1⟩
    go_simp
    with_reducible rfl
  rotate_left
  · simp only [Act.put, List.setIfInBounds_toArray, List.set_cons_zero, List.set_cons_succ, i64_w, i32_w]
    rfl
  refine take_ (i := 2) (N := some 4) (v := ?_) (a' := ?_) #[true, true, true, false, false, false, false, false] rfl rfl (by kernel_rfl) (fun _ _ _ h => h) (Or.inl ⟨by rfl, ?_⟩) hHeld ?_ ?_
  rotate_left
  · rintro w' ⟨s0, s1⟩
    go_simp
    with_reducible rfl
  rotate_left
  · simp only [Act.put, List.setIfInBounds_toArray, List.set_cons_zero, List.set_cons_succ, i64_w, i32_w]
    rfl
  refine one_ (i := 3) (N := some 5) #[true, true, true, true, false, false, false, false] rfl rfl (by kernel_rfl) (by decide) (fun K hK => ?_)
  refine goes_ Try.func50 (by kernel_rfl) rfl #[.pointer (some ⟨rb, 0, none⟩)] (by rfl) rfl rfl (by simp only [List.map_toArray, List.map_cons, List.map_nil]; rfl) ?_
  with_reducible refine (rtable_any rb _ _ w1.drew C1.out.rs (by omega)).mono ?_
  rintro e w2 ⟨u2, x, s2, b2, rfl, hv2, hR2, hM2, hsz2, hrd2⟩
  refine ⟨_, rfl, ?_⟩
  obtain ⟨a1, a2, a3, hu, ha1, ha2, ha3⟩ := hv2
  subst hu
  obtain ⟨X1, c1, hX1⟩ := Kd.R_slice ha1
  subst hX1
  obtain ⟨X2, c2, hX2⟩ := Kd.R_slice ha2
  subst hX2
  obtain ⟨X3, c3, hX3⟩ := Kd.R_slice ha3
  subst hX3
  have C2 := Aside0.mk (C1.out.read hR2 hM2)
  have RD2 := Lib.hid hrd2
  have hz2 : s2.size ≤ 140737488355328 := by omega
  have hws := hM2.size
  have HMM := Aside0.mk (show kTab.M w2 w1.drew.heap.size (fun _ => True) x [.string x.name, .slice X1 x.cols.length c1, .slice X2 x.key.length c2, .int .i64 x.part, .slice X3 x.idx.length c3] from kTab_M.2 ⟨_, _, _, rfl, ha1, ha2, ha3⟩)
  clear hR2 hM2 hrd2 hsz2 ha1 ha2 ha3
  refine hK.out _ _ ⟨blk_cell C2.out.tbx 0, blk_cell C2.out.qbx 0⟩ (fun hHeld => ?_)
  clear hK K
  refine norm_ (a' := ?_) ?_ ?_
  rotate_left
  · show Act.put _ (some 5) _ = _
    simp only [Act.put, List.setIfInBounds_toArray, List.set_cons_zero, List.set_cons_succ, i64_w, i32_w]
    rfl
  refine one_ (i := 4) (N := some 6) #[true, true, true, true, true, false, false, false] rfl rfl (by kernel_rfl) (by decide) (fun K hK => ?_)
  refine value_ (w1 := ?_) (v := ?_) (by rfl) rfl ?_ ?_
  rotate_left 2
  · go_simp
    constructor
    · rfl
    · rfl
  have C6 := Aside0.mk (C2.out.below (below_alloc (Below.refl _ _) (Obj.cells #[.string x.name, .slice X1 x.cols.length c1, .slice X2 x.key.length c2, .int .i64 x.part, .slice X3 x.idx.length c3] 30)))
  refine hK.out _ _ ⟨blk_cell C6.out.tbx 0, blk_cell C6.out.qbx 0⟩ (fun hHeld => ?_)
  clear hK K
  refine norm_ (a' := ?_) ?_ ?_
  rotate_left
  · show Act.put _ (some 6) _ = _
    simp only [Act.put, List.setIfInBounds_toArray, List.set_cons_zero, List.set_cons_succ, i64_w, i32_w]
    rfl
  refine one_ (i := 5) (N := some 7) #[true, true, true, true, true, true, false, false] rfl rfl (by kernel_rfl) (by decide) (fun K hK => ?_)
  have hwsS : wS.heap.size ≤ w1.drew.heap.size := C1.out.md.size
  have HRL := Lib.hid (fun i hi => Kd.R_lt C1.out.row i hi)
  refine Kd.R_append_step kTab (w0 := w2) wS.heap.size (by rfl) (.tmp 3) (.tmp 6) 22 30 _ 96 rfl Try.underlying22 info30 rfl (by decide) (by omega) _ xs x [.string x.name, .slice X1 x.cols.length c1, .slice X2 x.key.length c2, .int .i64 x.part, .slice X3 x.idx.length c3] (fun q => wS.heap.size ≤ q) (fun q => w1.drew.heap.size ≤ q) (by rfl) (by rfl) ?aP ?aK ?aF ?aO ?aB ?aS ?aL ?_
  case aP => exact kTab.M_lower (by have := C2.out.md.size; first | exact hwsS | omega) (kTab.M_mono (fun k hk => hk.2.1) (kTab.M_bound HMM.out))
  case aK => exact fun i hi => ⟨by have := hwsS; omega, fun he => by have h1 := HRL.out i he.symm; omega⟩
  case aF => exact fun i hi => Nat.le_trans C2.out.md.size hi
  case aO => exact C2.out.row
  case aB => exact Below.refl _ _
  case aS => exact C2.out.md.size
  case aL => omega
  intro v7 w7 ho7 hb7 hg7 hat7
  obtain ⟨V7, vc7, hv7⟩ := Kd.R_slice ho7
  rw [List.length_append, List.length_singleton] at hv7
  subst hv7
  obtain ⟨hC7, hT7⟩ := C2.out.appended ho7 hg7 0 (cs' := #[(.slice V7 (xs.length + 1) vc7), .slice none 0 0]) rfl
  have C7 := Aside0.mk hC7
  have T7 := Aside0.mk hT7
  have hQ7 : w7.heap[qb]? = some (.cells #[.pointer (some ⟨rb, 0, none⟩)] 79 (0, 0)) := by have h := C2.out.qbx; rw [hg7.block qb (blk_lt h) (fun he => by have h1 := C2.out.row.1 qb he.symm; have h2 := C2.out.lts.2.2.1; omega)]; exact h
  have Q7 := Aside0.mk hQ7
  clear ho7 hb7 hg7 hat7 hC7 hT7 hQ7
  refine hK.out _ _ ⟨blk_cell T7.out 0, blk_cell Q7.out 0⟩ (fun hHeld => ?_)
  clear hK K
  refine norm_ (a' := ?_) ?_ ?_
  rotate_left
  · show Act.put _ (some 7) _ = _
    simp only [Act.put, List.setIfInBounds_toArray, List.set_cons_zero, List.set_cons_succ, i64_w, i32_w]
    rfl
  refine pure_ (i := 6) (N := some 8) (v := ?_) (a' := ?_) #[true, true, true, true, true, true, true, false] rfl rfl (by kernel_rfl) (fun _ _ _ h => h) (Or.inl ⟨by rfl, ?_⟩) ?_ ?_
  rotate_left
  · intro w'
    go_simp
    with_reducible rfl
  rotate_left
  · simp only [Act.put, List.setIfInBounds_toArray, List.set_cons_zero, List.set_cons_succ, i64_w, i32_w]
    rfl
  refine last_ (i := 7) (N := none) #[true, true, true, true, true, true, true, true] rfl rfl (by kernel_rfl) (by decide) (fun K hK => ?_)
  have z1 := blk_cell T7.out 0
  have z2 := blk_frozen T7.out 0
  refine skip_ (w1 := ?_) (by rfl) rfl ?_ ?_
  rotate_left
  · go_simp
    rfl
  refine hK.out _ _ ?_
  clear hK K
  refine done_ (by kernel_rfl) ?_
  clear z1 z2 hHeld q0 q1
  go_wp2_with fail
  go_end0
  exact ⟨rfl, MI.step HXK.out HL.out (RD2.out) C7.out rfl (by omega)⟩
set_option maxRecDepth 100000 in
set_option maxHeartbeats 4000000 in
theorem cl51_any (rb tb qb : Nat) (p1 : Value) (wS : World) (l0 : List Int) (b0 : Bool) (k : Nat) (w1 : World) (s1 : ByteArray) (hk : k < 268435456) (hI : MI kPrc 34 wPrc okPrc rb tb qb 25 (fun v => #[p1, v]) wS l0 b0 k w1 s1 false) (hRS : RS w1 rb s1 false) :
    Calls Try.prog 51 #[.pointer (some ⟨tb, 0, none⟩), .pointer (some ⟨qb, 0, none⟩)] w1 (fun e w2 => e = .returned (.tuple #[]) ∧ ∃ s2 b2, RS w2 rb s2 b2 ∧ MI kPrc 34 wPrc okPrc rb tb qb 25 (fun v => #[p1, v]) wS l0 b0 (k + 1) w2 s2 b2) := by
  obtain ⟨v, xs, hxk, hL, hC, hs⟩ := hI
  obtain ⟨V, vc, hv⟩ := Kd.R_slice hC.row
  subst hv
  have hC1 := hC.read hRS (Mod.refl _ _)
  have C1 := Aside0.mk (hC1.below (below_drew (Below.refl _ _)))
  have HL := Lib.hid hL
  have HXK := Lib.hid hxk
  have hxl : xs.length < 268435456 := by omega
  clear hC hC1 hL hRS hxk
  have q0 : w1.drew.cell? ⟨tb, 1, none⟩ = some (.slice V xs.length vc) := blk_cell C1.out.tbx 1
  have q1 : w1.drew.cell? ⟨qb, 0, none⟩ = some (.pointer (some ⟨rb, 0, none⟩)) := blk_cell C1.out.qbx 0
  go_enter Try.func51, Try.ntmps51
  go_wp2_with fail
  refine start_ (n := 8) (S := fun w' => w'.cell? ⟨tb, 1, none⟩ = some (.slice V xs.length vc) ∧ w'.cell? ⟨qb, 0, none⟩ = some (.pointer (some ⟨rb, 0, none⟩))) (ds := [7]) #[false, false, false, false, false, false, false, false] (by kernel_rfl) rfl rfl ⟨q0, q1⟩ (fun hHeld => ?_)
  refine pure_ (i := 0) (N := some 2) (v := ?_) (a' := ?_) #[true, false, false, false, false, false, false, false] rfl rfl (by kernel_rfl) (fun _ _ _ h => h) (Or.inl ⟨by rfl, ?_⟩) ?_ ?_
  rotate_left
  · intro w'
    go_simp
    with_reducible rfl
  rotate_left
  · simp only [Act.put, List.setIfInBounds_toArray, List.set_cons_zero, List.set_cons_succ, i64_w, i32_w]
    rfl
  refine take_ (i := 1) (N := some 3) (v := ?_) (a' := ?_) #[true, true, false, false, false, false, false, false] rfl rfl (by kernel_rfl) (fun _ _ _ h => h) (Or.inl ⟨by rfl, ?_⟩) hHeld ?_ ?_
  rotate_left
  · rintro w' ⟨s0, s1⟩
    go_simp
    with_reducible rfl
  rotate_left
  · simp only [Act.put, List.setIfInBounds_toArray, List.set_cons_zero, List.set_cons_succ, i64_w, i32_w]
    rfl
  refine take_ (i := 2) (N := some 4) (v := ?_) (a' := ?_) #[true, true, true, false, false, false, false, false] rfl rfl (by kernel_rfl) (fun _ _ _ h => h) (Or.inl ⟨by rfl, ?_⟩) hHeld ?_ ?_
  rotate_left
  · rintro w' ⟨s0, s1⟩
    go_simp
    with_reducible rfl
  rotate_left
  · simp only [Act.put, List.setIfInBounds_toArray, List.set_cons_zero, List.set_cons_succ, i64_w, i32_w]
    rfl
  refine one_ (i := 3) (N := some 5) #[true, true, true, true, false, false, false, false] rfl rfl (by kernel_rfl) (by decide) (fun K hK => ?_)
  refine goes_ Try.func52 (by kernel_rfl) rfl #[.pointer (some ⟨rb, 0, none⟩)] (by rfl) rfl rfl (by simp only [List.map_toArray, List.map_cons, List.map_nil]; rfl) ?_
  with_reducible refine (rproc_any rb _ _ w1.drew C1.out.rs (by omega)).mono ?_
  rintro e w2 ⟨u2, x, s2, b2, rfl, hv2, hR2, hM2, hsz2, hrd2⟩
  refine ⟨_, rfl, ?_⟩
  obtain ⟨a1, a2, hu, ha1, ha2⟩ := hv2
  subst hu
  obtain ⟨X1, c1, hX1⟩ := Kd.R_slice ha1
  subst hX1
  obtain ⟨X2, c2, hX2⟩ := Kd.R_slice ha2
  subst hX2
  have C2 := Aside0.mk (C1.out.read hR2 hM2)
  have RD2 := Lib.hid hrd2
  have hz2 : s2.size ≤ 140737488355328 := by omega
  have hws := hM2.size
  have HMM := Aside0.mk (show kPrc.M w2 w1.drew.heap.size (fun _ => True) x [.string x.name, .slice X1 x.params.length c1, .slice X2 x.body.length c2, .int .i64 x.rows, .int .i64 x.bytes] from kPrc_M.2 ⟨_, _, rfl, ha1, ha2⟩)
  clear hR2 hM2 hrd2 hsz2 ha1 ha2
  refine hK.out _ _ ⟨blk_cell C2.out.tbx 1, blk_cell C2.out.qbx 0⟩ (fun hHeld => ?_)
  clear hK K
  refine norm_ (a' := ?_) ?_ ?_
  rotate_left
  · show Act.put _ (some 5) _ = _
    simp only [Act.put, List.setIfInBounds_toArray, List.set_cons_zero, List.set_cons_succ, i64_w, i32_w]
    rfl
  refine one_ (i := 4) (N := some 6) #[true, true, true, true, true, false, false, false] rfl rfl (by kernel_rfl) (by decide) (fun K hK => ?_)
  refine value_ (w1 := ?_) (v := ?_) (by rfl) rfl ?_ ?_
  rotate_left 2
  · go_simp
    constructor
    · rfl
    · rfl
  have C6 := Aside0.mk (C2.out.below (below_alloc (Below.refl _ _) (Obj.cells #[.string x.name, .slice X1 x.params.length c1, .slice X2 x.body.length c2, .int .i64 x.rows, .int .i64 x.bytes] 34)))
  refine hK.out _ _ ⟨blk_cell C6.out.tbx 1, blk_cell C6.out.qbx 0⟩ (fun hHeld => ?_)
  clear hK K
  refine norm_ (a' := ?_) ?_ ?_
  rotate_left
  · show Act.put _ (some 6) _ = _
    simp only [Act.put, List.setIfInBounds_toArray, List.set_cons_zero, List.set_cons_succ, i64_w, i32_w]
    rfl
  refine one_ (i := 5) (N := some 7) #[true, true, true, true, true, true, false, false] rfl rfl (by kernel_rfl) (by decide) (fun K hK => ?_)
  have hwsS : wS.heap.size ≤ w1.drew.heap.size := C1.out.md.size
  have HRL := Lib.hid (fun i hi => Kd.R_lt C1.out.row i hi)
  refine Kd.R_append_step kPrc (w0 := w2) wS.heap.size (by rfl) (.tmp 3) (.tmp 6) 23 34 _ 80 rfl Try.underlying23 info34 rfl (by decide) (by omega) _ xs x [.string x.name, .slice X1 x.params.length c1, .slice X2 x.body.length c2, .int .i64 x.rows, .int .i64 x.bytes] (fun q => wS.heap.size ≤ q) (fun q => w1.drew.heap.size ≤ q) (by rfl) (by rfl) ?aP ?aK ?aF ?aO ?aB ?aS ?aL ?_
  case aP => exact kPrc.M_lower (by have := C2.out.md.size; first | exact hwsS | omega) (kPrc.M_mono (fun k hk => hk.2.1) (kPrc.M_bound HMM.out))
  case aK => exact fun i hi => ⟨by have := hwsS; omega, fun he => by have h1 := HRL.out i he.symm; omega⟩
  case aF => exact fun i hi => Nat.le_trans C2.out.md.size hi
  case aO => exact C2.out.row
  case aB => exact Below.refl _ _
  case aS => exact C2.out.md.size
  case aL => omega
  intro v7 w7 ho7 hb7 hg7 hat7
  obtain ⟨V7, vc7, hv7⟩ := Kd.R_slice ho7
  rw [List.length_append, List.length_singleton] at hv7
  subst hv7
  obtain ⟨hC7, hT7⟩ := C2.out.appended ho7 hg7 1 (cs' := #[p1, (.slice V7 (xs.length + 1) vc7)]) rfl
  have C7 := Aside0.mk hC7
  have T7 := Aside0.mk hT7
  have hQ7 : w7.heap[qb]? = some (.cells #[.pointer (some ⟨rb, 0, none⟩)] 79 (0, 0)) := by have h := C2.out.qbx; rw [hg7.block qb (blk_lt h) (fun he => by have h1 := C2.out.row.1 qb he.symm; have h2 := C2.out.lts.2.2.1; omega)]; exact h
  have Q7 := Aside0.mk hQ7
  clear ho7 hb7 hg7 hat7 hC7 hT7 hQ7
  refine hK.out _ _ ⟨blk_cell T7.out 1, blk_cell Q7.out 0⟩ (fun hHeld => ?_)
  clear hK K
  refine norm_ (a' := ?_) ?_ ?_
  rotate_left
  · show Act.put _ (some 7) _ = _
    simp only [Act.put, List.setIfInBounds_toArray, List.set_cons_zero, List.set_cons_succ, i64_w, i32_w]
    rfl
  refine pure_ (i := 6) (N := some 8) (v := ?_) (a' := ?_) #[true, true, true, true, true, true, true, false] rfl rfl (by kernel_rfl) (fun _ _ _ h => h) (Or.inl ⟨by rfl, ?_⟩) ?_ ?_
  rotate_left
  · intro w'
    go_simp
    with_reducible rfl
  rotate_left
  · simp only [Act.put, List.setIfInBounds_toArray, List.set_cons_zero, List.set_cons_succ, i64_w, i32_w]
    rfl
  refine last_ (i := 7) (N := none) #[true, true, true, true, true, true, true, true] rfl rfl (by kernel_rfl) (by decide) (fun K hK => ?_)
  have z1 := blk_cell T7.out 1
  have z2 := blk_frozen T7.out 1
  refine skip_ (w1 := ?_) (by rfl) rfl ?_ ?_
  rotate_left
  · go_simp
    rfl
  refine hK.out _ _ ?_
  clear hK K
  refine done_ (by kernel_rfl) ?_
  clear z1 z2 hHeld q0 q1
  go_wp2_with fail
  go_end0
  exact ⟨rfl, MI.step HXK.out HL.out (RD2.out) C7.out rfl (by omega)⟩
end Go.Proofs.Ytcmgdieeclninaa
