/- Layer 8: the walk of the reader's table. -/
import Derived.Test.YtcmgdieeclninaaD42
set_option linter.unusedVariables false
set_option linter.unusedSimpArgs false
namespace Go.Proofs.Ytcmgdieeclninaa
open Go.RowKit Go.Proofs.YtcmgdieeclninaaW.PrintWords Go.Proofs.YtcmgdieeclninaaW.PrintLast
set_option maxRecDepth 100000 in
set_option maxHeartbeats 4000000 in
theorem cl90_any (rb tb qb : Nat) (nm : ByteArray) (p1 p2 : Value) (pt : Int) (wS : World) (l0 : List Int) (b0 : Bool) (k : Nat) (w1 : World) (s1 : ByteArray) (hk : k < 268435456) (hI : MI kIdx 64 wI okI rb tb qb 30 (fun v => #[.string nm, p1, p2, .int .i64 pt, v]) wS l0 b0 k w1 s1 false) (hRS : RS w1 rb s1 false) :
    Calls Try.prog 90 #[.pointer (some ⟨tb, 0, none⟩), .pointer (some ⟨qb, 0, none⟩)] w1 (fun e w2 => e = .returned (.tuple #[]) ∧ ∃ s2 b2, RS w2 rb s2 b2 ∧ MI kIdx 64 wI okI rb tb qb 30 (fun v => #[.string nm, p1, p2, .int .i64 pt, v]) wS l0 b0 (k + 1) w2 s2 b2) := by
  obtain ⟨v, xs, hxk, hL, hC, hs⟩ := hI
  obtain ⟨V, vc, hv⟩ := Kd.R_slice hC.row
  subst hv
  have hC1 := hC.read hRS (Mod.refl _ _)
  have C1 := Aside0.mk (hC1.below (below_drew (Below.refl _ _)))
  have HL := Lib.hid hL
  have HXK := Lib.hid hxk
  have hxl : xs.length < 268435456 := by omega
  clear hC hC1 hL hRS hxk
  have q0 : w1.drew.cell? ⟨tb, 4, none⟩ = some (.slice V xs.length vc) := blk_cell C1.out.tbx 4
  have q1 : w1.drew.cell? ⟨qb, 0, none⟩ = some (.pointer (some ⟨rb, 0, none⟩)) := blk_cell C1.out.qbx 0
  go_enter Try.func90, Try.ntmps90
  go_wp2_with fail
  refine start_ (n := 13) (S := fun w' => w'.cell? ⟨tb, 4, none⟩ = some (.slice V xs.length vc) ∧ w'.cell? ⟨qb, 0, none⟩ = some (.pointer (some ⟨rb, 0, none⟩))) (ds := [12]) #[false, false, false, false, false, false, false, false, false, false, false, false, false] (by kernel_rfl) rfl rfl ⟨q0, q1⟩ (fun hHeld => ?_)
  refine pure_ (i := 0) (N := some 2) (v := ?_) (a' := ?_) #[true, false, false, false, false, false, false, false, false, false, false, false, false] rfl rfl (by kernel_rfl) (fun _ _ _ h => h) (Or.inl ⟨by rfl, ?_⟩) ?_ ?_
  rotate_left
  · intro w'
    go_simp
    with_reducible rfl
  rotate_left
  · simp only [Act.put, List.setIfInBounds_toArray, List.set_cons_zero, List.set_cons_succ, i64_w, i32_w]
    rfl
  refine take_ (i := 1) (N := some 3) (v := ?_) (a' := ?_) #[true, true, false, false, false, false, false, false, false, false, false, false, false] rfl rfl (by kernel_rfl) (fun _ _ _ h => h) (Or.inl ⟨by rfl, ?_⟩) hHeld ?_ ?_
  rotate_left
  · rintro w' ⟨s0, s1⟩
    go_simp
    with_reducible rfl
  rotate_left
  · simp only [Act.put, List.setIfInBounds_toArray, List.set_cons_zero, List.set_cons_succ, i64_w, i32_w]
    rfl
  refine take_ (i := 2) (N := some 4) (v := ?_) (a' := ?_) #[true, true, true, false, false, false, false, false, false, false, false, false, false] rfl rfl (by kernel_rfl) (fun _ _ _ h => h) (Or.inl ⟨by rfl, ?_⟩) hHeld ?_ ?_
  rotate_left
  · rintro w' ⟨s0, s1⟩
    go_simp
    with_reducible rfl
  rotate_left
  · simp only [Act.put, List.setIfInBounds_toArray, List.set_cons_zero, List.set_cons_succ, i64_w, i32_w]
    rfl
  refine take_ (i := 4) (N := some 6) (v := ?_) (a' := ?_) #[true, true, true, false, true, false, false, false, false, false, false, false, false] rfl rfl (by kernel_rfl) (fun _ _ _ h => h) (Or.inl ⟨by rfl, ?_⟩) hHeld ?_ ?_
  rotate_left
  · rintro w' ⟨s0, s1⟩
    go_simp
    with_reducible rfl
  rotate_left
  · simp only [Act.put, List.setIfInBounds_toArray, List.set_cons_zero, List.set_cons_succ, i64_w, i32_w]
    rfl
  refine take_ (i := 6) (N := some 8) (v := ?_) (a' := ?_) #[true, true, true, false, true, false, true, false, false, false, false, false, false] rfl rfl (by kernel_rfl) (fun _ _ _ h => h) (Or.inl ⟨by rfl, ?_⟩) hHeld ?_ ?_
  rotate_left
  · rintro w' ⟨s0, s1⟩
    go_simp
    with_reducible rfl
  rotate_left
  · simp only [Act.put, List.setIfInBounds_toArray, List.set_cons_zero, List.set_cons_succ, i64_w, i32_w]
    rfl
  refine one_ (i := 3) (N := some 5) #[true, true, true, true, true, false, true, false, false, false, false, false, false] rfl rfl (by kernel_rfl) (by decide) (fun K hK => ?_)
  refine goes_ Try.func86 (by kernel_rfl) rfl #[.pointer (some ⟨rb, 0, none⟩)] (by rfl) rfl rfl (by simp only [List.map_toArray, List.map_cons, List.map_nil]; rfl) ?_
  with_reducible refine (rtext_any rb _ _ w1.drew C1.out.rs (by omega)).mono ?_
  rintro e w2 ⟨u2, x1, s2, b2, rfl, ⟨rfl, hv2⟩, hR2, hM2, hsz2, hrd2⟩
  refine ⟨_, rfl, ?_⟩
  have C2 := Aside0.mk (C1.out.read hR2 hM2)
  have RD2 := Lib.hid hrd2
  have hz2 : s2.size ≤ 140737488355328 := by omega
  clear hR2 hM2 hrd2 hsz2
  refine hK.out _ _ ⟨blk_cell C2.out.tbx 4, blk_cell C2.out.qbx 0⟩ (fun hHeld => ?_)
  clear hK K
  refine norm_ (a' := ?_) ?_ ?_
  rotate_left
  · show Act.put _ (some 5) _ = _
    simp only [Act.put, List.setIfInBounds_toArray, List.set_cons_zero, List.set_cons_succ, i64_w, i32_w]
    rfl
  refine one_ (i := 5) (N := some 7) #[true, true, true, true, true, true, true, false, false, false, false, false, false] rfl rfl (by kernel_rfl) (by decide) (fun K hK => ?_)
  refine goes_ Try.func88 (by kernel_rfl) rfl #[.pointer (some ⟨rb, 0, none⟩)] (by rfl) rfl rfl (by simp only [List.map_toArray, List.map_cons, List.map_nil]; rfl) ?_
  with_reducible refine (rflag_any rb _ _ w2 C2.out.rs (by omega)).mono ?_
  rintro e w3 ⟨u3, x2, s3, b3, rfl, rfl, hR3, hM3, hsz3, hrd3⟩
  refine ⟨_, rfl, ?_⟩
  have C3 := Aside0.mk (C2.out.read hR3 hM3)
  have RD3 := Lib.hid hrd3
  have hz3 : s3.size ≤ 140737488355328 := by omega
  clear hR3 hM3 hrd3 hsz3
  refine hK.out _ _ ⟨blk_cell C3.out.tbx 4, blk_cell C3.out.qbx 0⟩ (fun hHeld => ?_)
  clear hK K
  refine norm_ (a' := ?_) ?_ ?_
  rotate_left
  · show Act.put _ (some 7) _ = _
    simp only [Act.put, List.setIfInBounds_toArray, List.set_cons_zero, List.set_cons_succ, i64_w, i32_w]
    rfl
  refine one_ (i := 7) (N := some 9) #[true, true, true, true, true, true, true, true, false, false, false, false, false] rfl rfl (by kernel_rfl) (by decide) (fun K hK => ?_)
  refine goes_ Try.func89 (by kernel_rfl) rfl #[.pointer (some ⟨rb, 0, none⟩)] (by rfl) rfl rfl (by simp only [List.map_toArray, List.map_cons, List.map_nil]; rfl) ?_
  with_reducible refine (rnums_any rb _ _ w3 C3.out.rs (by omega)).mono ?_
  rintro e w4 ⟨u4, x3, s4, b4, rfl, hv4, hR4, hM4, hsz4, hrd4⟩
  refine ⟨_, rfl, ?_⟩
  have ha1 : (Kd.int .i64).R 3 w4 w3.heap.size (fun _ => True) u4 x3 := hv4
  obtain ⟨X1, c1, hX1⟩ := Kd.R_slice ha1
  subst hX1
  have C4 := Aside0.mk (C3.out.read hR4 hM4)
  have RD4 := Lib.hid hrd4
  have hz4 : s4.size ≤ 140737488355328 := by omega
  have hws := hM4.size
  have HMM := Aside0.mk (show kIdx.M w4 w3.heap.size (fun _ => True) (⟨x1, x3, x2⟩ : Idx) [.string x1, .slice X1 x3.length c1, .bool x2] from kIdx_M.2 ⟨_, rfl, ha1⟩)
  clear hR4 hM4 hrd4 hsz4 ha1 hv4
  refine hK.out _ _ ⟨blk_cell C4.out.tbx 4, blk_cell C4.out.qbx 0⟩ (fun hHeld => ?_)
  clear hK K
  refine norm_ (a' := ?_) ?_ ?_
  rotate_left
  · show Act.put _ (some 9) _ = _
    simp only [Act.put, List.setIfInBounds_toArray, List.set_cons_zero, List.set_cons_succ, i64_w, i32_w]
    rfl
  refine pure_ (i := 8) (N := some 10) (v := ?_) (a' := ?_) #[true, true, true, true, true, true, true, true, true, false, false, false, false] rfl rfl (by kernel_rfl) (fun _ _ _ h => h) (Or.inl ⟨by rfl, ?_⟩) ?_ ?_
  rotate_left
  · intro w'
    go_simp
    with_reducible rfl
  rotate_left
  · simp only [Act.put, List.setIfInBounds_toArray, List.set_cons_zero, List.set_cons_succ, i64_w, i32_w]
    rfl
  refine one_ (i := 9) (N := some 11) #[true, true, true, true, true, true, true, true, true, true, false, false, false] rfl rfl (by kernel_rfl) (by decide) (fun K hK => ?_)
  refine value_ (w1 := ?_) (v := ?_) (by rfl) rfl ?_ ?_
  rotate_left 2
  · go_simp
    constructor
    · rfl
    · rfl
  have C6 := Aside0.mk (C4.out.below (below_alloc (Below.refl _ _) (Obj.cells #[.string x1, .slice X1 x3.length c1, .bool x2] 64)))
  refine hK.out _ _ ⟨blk_cell C6.out.tbx 4, blk_cell C6.out.qbx 0⟩ (fun hHeld => ?_)
  clear hK K
  refine norm_ (a' := ?_) ?_ ?_
  rotate_left
  · show Act.put _ (some 11) _ = _
    simp only [Act.put, List.setIfInBounds_toArray, List.set_cons_zero, List.set_cons_succ, i64_w, i32_w]
    rfl
  refine one_ (i := 10) (N := some 12) #[true, true, true, true, true, true, true, true, true, true, true, false, false] rfl rfl (by kernel_rfl) (by decide) (fun K hK => ?_)
  have hwsS : wS.heap.size ≤ w3.heap.size := C3.out.md.size
  have HRL := Lib.hid (fun i hi => Kd.R_lt C3.out.row i hi)
  refine Kd.R_append_step kIdx (w0 := w4) wS.heap.size (by rfl) (.tmp 3) (.tmp 11) 28 64 _ 48 rfl Try.underlying28 info64b rfl (by decide) (by omega) _ xs (⟨x1, x3, x2⟩ : Idx) [.string x1, .slice X1 x3.length c1, .bool x2] (fun q => wS.heap.size ≤ q) (fun q => w3.heap.size ≤ q) (by rfl) (by rfl) ?aP ?aK ?aF ?aO ?aB ?aS ?aL ?_
  case aP => exact kIdx.M_lower (by have := C4.out.md.size; first | exact hwsS | omega) (kIdx.M_mono (fun k hk => hk.2.1) (kIdx.M_bound HMM.out))
  case aK => exact fun i hi => ⟨by have := hwsS; omega, fun he => by have h1 := HRL.out i he.symm; omega⟩
  case aF => exact fun i hi => Nat.le_trans C4.out.md.size hi
  case aO => exact C4.out.row
  case aB => exact Below.refl _ _
  case aS => exact C4.out.md.size
  case aL => omega
  intro v7 w7 ho7 hb7 hg7 hat7
  obtain ⟨V7, vc7, hv7⟩ := Kd.R_slice ho7
  rw [List.length_append, List.length_singleton] at hv7
  subst hv7
  obtain ⟨hC7, hT7⟩ := C4.out.appended ho7 hg7 4 (cs' := #[.string nm, p1, p2, .int .i64 pt, (.slice V7 (xs.length + 1) vc7)]) rfl
  have C7 := Aside0.mk hC7
  have T7 := Aside0.mk hT7
  have hQ7 : w7.heap[qb]? = some (.cells #[.pointer (some ⟨rb, 0, none⟩)] 79 (0, 0)) := by have h := C4.out.qbx; rw [hg7.block qb (blk_lt h) (fun he => by have h1 := C4.out.row.1 qb he.symm; have h2 := C4.out.lts.2.2.1; omega)]; exact h
  have Q7 := Aside0.mk hQ7
  clear ho7 hb7 hg7 hat7 hC7 hT7 hQ7
  refine hK.out _ _ ⟨blk_cell T7.out 4, blk_cell Q7.out 0⟩ (fun hHeld => ?_)
  clear hK K
  refine norm_ (a' := ?_) ?_ ?_
  rotate_left
  · show Act.put _ (some 12) _ = _
    simp only [Act.put, List.setIfInBounds_toArray, List.set_cons_zero, List.set_cons_succ, i64_w, i32_w]
    rfl
  refine pure_ (i := 11) (N := some 13) (v := ?_) (a' := ?_) #[true, true, true, true, true, true, true, true, true, true, true, true, false] rfl rfl (by kernel_rfl) (fun _ _ _ h => h) (Or.inl ⟨by rfl, ?_⟩) ?_ ?_
  rotate_left
  · intro w'
    go_simp
    with_reducible rfl
  rotate_left
  · simp only [Act.put, List.setIfInBounds_toArray, List.set_cons_zero, List.set_cons_succ, i64_w, i32_w]
    rfl
  refine last_ (i := 12) (N := none) #[true, true, true, true, true, true, true, true, true, true, true, true, true] rfl rfl (by kernel_rfl) (by decide) (fun K hK => ?_)
  have z1 := blk_cell T7.out 4
  have z2 := blk_frozen T7.out 4
  refine skip_ (w1 := ?_) (by rfl) rfl ?_ ?_
  rotate_left
  · go_simp
    rfl
  refine hK.out _ _ ?_
  clear hK K
  refine done_ (by kernel_rfl) ?_
  clear z1 z2 hHeld q0 q1
  go_wp2_with fail
  go_end0
  exact ⟨rfl, MI.step HXK.out HL.out (((RD2.out).pair ((RD3.out).pair (RD4.out))).map (fun p => (⟨p.1, p.2.2, p.2.1⟩ : Idx)) (fun c => (c.name, c.unique, c.columns)) rfl (fun _ => rfl) (fun y hy => ⟨hy.1, trivial, hy.2⟩) (fun _ _ => rfl)) C7.out rfl (by omega)⟩
theorem R_up {α : Type} {d : Kd α} {e base N : Nat} {w w' : World} {ok S : Nat → Prop} {v : Value} {xs : List α} (h : d.R e w base ok v xs) (hok : ∀ q, ok q → N ≤ q) (hm : Mod w w' S) (hS : ∀ i, S i → i < N) : d.R e w' base ok v xs :=
  Kd.R_step h (fun q hq hl => hm.block q hl (fun hs => by have := hok q hq; have := hS q hs; omega))
set_option maxRecDepth 100000 in
set_option maxHeartbeats 8000000 in
theorem rtable_any (rb : Nat) (s : ByteArray) (b : Bool) (w : World) (h : RS w rb s b) (hs : s.size ≤ 140737488355328) : Calls Try.prog 50 #[.pointer (some ⟨rb, 0, none⟩)] w (ROutB wTab okTab vTab rb s b w) := by
  have hJ := ((TJ.start h).alloc #[.pointer (some ⟨rb, 0, none⟩)] 79).alloc #[.string ⟨#[]⟩, .slice none 0 0, .slice none 0 0, .int .i64 0, .slice none 0 0] 30
  have hsz : (w.alloc (Obj.cells #[.pointer (some ⟨rb, 0, none⟩)] 79)).heap.size = w.heap.size + 1 := by simp
  rw [hsz] at hJ
  obtain ⟨W, hW⟩ : ∃ u, u = (w.alloc (Obj.cells #[.pointer (some ⟨rb, 0, none⟩)] 79)).alloc (Obj.cells #[.string ⟨#[]⟩, .slice none 0 0, .slice none 0 0, .int .i64 0, .slice none 0 0] 30) := ⟨_, rfl⟩
  have hWs : W.heap.size = w.heap.size + 2 := by rw [hW]; simp
  rw [← hW] at hJ
  have HJ := Aside0.mk hJ
  have HW := Aside0.mk hW.symm
  have hlt := blk_lt h
  have f0 : ((w.alloc (Obj.cells #[.pointer (some ⟨rb, 0, none⟩)] 79)).alloc (Obj.cells #[.string ⟨#[]⟩, .slice none 0 0, .slice none 0 0, .int .i64 0, .slice none 0 0] 30)).cell? ⟨w.heap.size, 0, none⟩ = some (.pointer (some ⟨rb, 0, none⟩)) := by rw [← hW]; exact blk_cell hJ.at2 0
  clear hJ hW h hsz
  go_enter Try.func50, Try.ntmps50
  go_wp2_with fail
  rw [HW.out]
  refine (rtext_any rb s b W HJ.out.rs hs).mono ?_
  rintro e w1 ⟨u1, nm, s1, b1, rfl, ⟨rfl, hnm⟩, hR1, hM1, hsz1, hrd1⟩
  have hs1 : s1.size ≤ 140737488355328 := by omega
  have hJ1 := HJ.out.read hR1 hM1
  have hJa := hJ1.alloc #[.string nm, .slice none 0 0, .slice none 0 0, .int .i64 0, .slice none 0 0] 30
  obtain ⟨wa, hwa⟩ : ∃ u, u = w1.alloc (Obj.cells #[.string nm, .slice none 0 0, .slice none 0 0, .int .i64 0, .slice none 0 0] 30) := ⟨_, rfl⟩
  obtain ⟨tb, htb⟩ : ∃ t, t = w1.heap.size := ⟨_, rfl⟩
  have htbw : w.heap.size + 2 ≤ tb := by rw [htb, ← hWs]; exact hM1.size
  have hwas : wa.heap.size = tb + 1 := by rw [hwa, htb]; simp
  rw [← hwa, ← htb] at hJa
  have f1 : (w1.alloc (Obj.cells #[.string nm, .slice none 0 0, .slice none 0 0, .int .i64 0, .slice none 0 0] 30)).cell? ⟨w.heap.size, 0, none⟩ = some (.pointer (some ⟨rb, 0, none⟩)) := by rw [← hwa]; exact blk_cell hJa.at3 0
  have HJa := Aside0.mk hJa
  have RD1 := Lib.hid hrd1
  have HWA := Aside0.mk hwa.symm
  have HTB := Lib.hid htb.symm
  clear hR1 hM1 hsz1 hrd1 hJ1 hJa hwa htb f0 HJ HW
  go_wp2_with fail
  rw [HWA.out, HTB.out]
  refine (many87_any 16 (by decide) #[.pointer (some ⟨tb, 0, none⟩), .pointer (some ⟨w.heap.size, 0, none⟩)] rb s1 b1 wa HJa.out.rs hs1 (MI kCol 62 wC okC rb tb w.heap.size 30 (fun v => #[.string nm, v, .slice none 0 0, .int .i64 0, .slice none 0 0]) wa)
    (MI.start hs1 HJa.out.hd HJa.out.at3 ⟨by omega, by omega, by omega, by omega, by omega, by omega⟩) (fun l0 b0 k w1 s1 hk hI hR => cl87_any rb _ _ nm wa l0 b0 k w1 s1 hk hI hR)).mono ?_
  intro e w2 hm
  obtain ⟨rfl, v1, cols, s2, b2, hC, hs2, hrd2⟩ := MI.many (by decide) hm
  have hJ2 := HJa.out.turn hC.rs hC.md hC.tbx (fun p hp => by simp at hp; rcases hp with rfl | rfl; show w.heap.size + 1 ≠ tb; omega; show w.heap.size ≠ tb; omega)
  obtain ⟨V1, c1, hv1⟩ := Kd.R_slice hC.row
  subst hv1
  have HJ2 := Aside0.mk hJ2
  have HR1 := Aside0.mk hC.row
  have RD2 := Lib.hid hrd2
  have f2 : w2.cell? ⟨w.heap.size, 0, none⟩ = some (.pointer (some ⟨rb, 0, none⟩)) := blk_cell hJ2.at3 0
  have hw2 : wa.heap.size ≤ w2.heap.size := hC.md.size
  clear hm hC hrd2 hJ2 f1 HJa HWA
  go_wp2_with fail
  refine (rnums_any rb s2 b2 w2 HJ2.out.rs hs2).mono ?_
  rintro e w3 ⟨u3, key, s3, b3, rfl, hv3, hR3, hM3, hs3, hrd3⟩
  have hv3' : (Kd.int .i64).R 3 w3 w2.heap.size (fun _ => True) u3 key := hv3
  obtain ⟨V2, c2, hv2⟩ := Kd.R_slice hv3'
  subst hv2
  have hJ3 := HJ2.out.read hR3 hM3
  have hJ3s := hJ3.set 2 (.slice V2 key.length c2) (cs' := #[.string nm, .slice V1 cols.length c1, .slice V2 key.length c2, .int .i64 0, .slice none 0 0]) rfl (fun p hp => by simp at hp; rcases hp with rfl | rfl; show w.heap.size + 1 ≠ tb; omega; show w.heap.size ≠ tb; omega)
  have g1 : w3.cell? ⟨tb, 2, none⟩ = some (.slice none 0 0) := blk_cell hJ3.hd 2
  have g2 : w3.frozen? ⟨tb, 2, none⟩ = false := blk_frozen hJ3.hd 2
  have g3 : (w3.setCell ⟨tb, 2, none⟩ (.slice V2 key.length c2)).cell? ⟨w.heap.size, 0, none⟩ = some (.pointer (some ⟨rb, 0, none⟩)) := blk_cell hJ3s.at3 0
  have hm3 := mod_setCell w3 tb 2 (.slice V2 key.length c2)
  have HR1b := Aside0.mk (R_up (N := wa.heap.size) (R_up (N := wa.heap.size) HR1.out (fun q h => h) hM3 (fun i hi => by omega)) (fun q h => h) hm3 (fun i hi => by omega))
  have HR2b := Aside0.mk (R_up (N := wa.heap.size) (Kd.R_mono (ok' := fun q => wa.heap.size ≤ q) (Kd.R_bound hv3') (fun q h => Nat.le_trans hw2 h.2.1)) (fun q h => h) hm3 (fun i hi => by omega))
  obtain ⟨w3s, hw3s⟩ : ∃ u, u = w3.setCell ⟨tb, 2, none⟩ (.slice V2 key.length c2) := ⟨_, rfl⟩
  rw [← hw3s] at hJ3s HR1b HR2b
  have HW3 := Aside0.mk hw3s.symm
  have HJ3 := Aside0.mk hJ3s
  have RD3 := Lib.hid hrd3
  clear hv3 hv3' hR3 hM3 hrd3 hJ3 hJ3s hm3 hw3s f2 HJ2 HR1
  go_wp2_with fail
  rw [HW3.out]
  refine (rint_any rb s3 b3 w3s HJ3.out.rs hs3).mono ?_
  rintro e w4 ⟨u4, pt, s4, b4, rfl, ⟨rfl, hpt⟩, hR4, hM4, hsz4, hrd4⟩
  have hs4 : s4.size ≤ 140737488355328 := by omega
  have hJ4 := HJ3.out.read hR4 hM4
  have hJ4s := hJ4.set 3 (.int .i64 pt) (cs' := #[.string nm, .slice V1 cols.length c1, .slice V2 key.length c2, .int .i64 pt, .slice none 0 0]) rfl (fun p hp => by simp at hp; rcases hp with rfl | rfl; show w.heap.size + 1 ≠ tb; omega; show w.heap.size ≠ tb; omega)
  have g4 : w4.cell? ⟨tb, 3, none⟩ = some (.int .i64 0) := blk_cell hJ4.hd 3
  have g5 : w4.frozen? ⟨tb, 3, none⟩ = false := blk_frozen hJ4.hd 3
  have g6 : (w4.setCell ⟨tb, 3, none⟩ (.int .i64 pt)).cell? ⟨w.heap.size, 0, none⟩ = some (.pointer (some ⟨rb, 0, none⟩)) := blk_cell hJ4s.at3 0
  have hm4 := mod_setCell w4 tb 3 (.int .i64 pt)
  have HR1c := Aside0.mk (R_up (N := wa.heap.size) (R_up (N := wa.heap.size) HR1b.out (fun q h => h) hM4 (fun i hi => by omega)) (fun q h => h) hm4 (fun i hi => by omega))
  have HR2c := Aside0.mk (R_up (N := wa.heap.size) (R_up (N := wa.heap.size) HR2b.out (fun q h => h) hM4 (fun i hi => by omega)) (fun q h => h) hm4 (fun i hi => by omega))
  have hw4 : wa.heap.size ≤ (w4.setCell ⟨tb, 3, none⟩ (.int .i64 pt)).heap.size := by
    have h1 := hM4.size
    have h2 : w3s.heap.size = w3.heap.size := by rw [← HW3.out, setCell_size]
    have h3 := HJ3.out.md.size
    rw [setCell_size]
    have h4 := blk_lt hJ4.hd
    omega
  obtain ⟨w4s, hw4s⟩ : ∃ u, u = w4.setCell ⟨tb, 3, none⟩ (.int .i64 pt) := ⟨_, rfl⟩
  rw [← hw4s] at hJ4s HR1c HR2c hw4
  have HW4 := Aside0.mk hw4s.symm
  have HJ4 := Aside0.mk hJ4s
  have RD4 := Lib.hid hrd4
  clear hR4 hM4 hsz4 hrd4 hJ4 hJ4s hm4 hw4s g1 g2 g3 HJ3 HR1b HR2b HW3
  go_wp2_with fail
  rw [HW4.out]
  refine (many90_any 4 (by decide) #[.pointer (some ⟨tb, 0, none⟩), .pointer (some ⟨w.heap.size, 0, none⟩)] rb s4 b4 w4s HJ4.out.rs hs4 (MI kIdx 64 wI okI rb tb w.heap.size 30 (fun v => #[.string nm, .slice V1 cols.length c1, .slice V2 key.length c2, .int .i64 pt, v]) w4s)
    (MI.start hs4 HJ4.out.hd HJ4.out.at3 ⟨by omega, by omega, by omega, by omega, by omega, by omega⟩) (fun l0 b0 k w1 s1 hk hI hR => cl90_any rb _ _ nm _ _ pt w4s l0 b0 k w1 s1 hk hI hR)).mono ?_
  intro e w5 hm
  obtain ⟨rfl, v5, idx, s5, b5, hC, hs5, hrd5⟩ := MI.many (by decide) hm
  have hJ5 := HJ4.out.turn hC.rs hC.md hC.tbx (fun p hp => by simp at hp; rcases hp with rfl | rfl; show w.heap.size + 1 ≠ tb; omega; show w.heap.size ≠ tb; omega)
  obtain ⟨V3, c3, hv5⟩ := Kd.R_slice hC.row
  subst hv5
  have HJ5 := Aside0.mk hJ5
  have HR3 := Aside0.mk hC.row
  have HR1d := Aside0.mk (R_up (N := wa.heap.size) HR1c.out (fun q h => h) hC.md (fun i hi => by omega))
  have HR2d := Aside0.mk (R_up (N := wa.heap.size) HR2c.out (fun q h => h) hC.md (fun i hi => by omega))
  have RD5 := Lib.hid hrd5
  have x0 : w5.cell? ⟨tb, 0, none⟩ = some (.string nm) := blk_cell hJ5.hd 0
  have x1 : w5.cell? ⟨tb, 1, none⟩ = some (.slice V1 cols.length c1) := blk_cell hJ5.hd 1
  have x2 : w5.cell? ⟨tb, 2, none⟩ = some (.slice V2 key.length c2) := blk_cell hJ5.hd 2
  have x3 : w5.cell? ⟨tb, 3, none⟩ = some (.int .i64 pt) := blk_cell hJ5.hd 3
  have x4 : w5.cell? ⟨tb, 4, none⟩ = some (.slice V3 idx.length c3) := blk_cell hJ5.hd 4
  have z0 : w5.cell? ⟨w.heap.size + 1, 0, none⟩ = some (.string ⟨#[]⟩) := blk_cell hJ5.at2 0
  have z1 : w5.cell? ⟨w.heap.size + 1, 1, none⟩ = some (.slice none 0 0) := blk_cell hJ5.at2 1
  have z2 : w5.cell? ⟨w.heap.size + 1, 2, none⟩ = some (.slice none 0 0) := blk_cell hJ5.at2 2
  have z3 : w5.cell? ⟨w.heap.size + 1, 3, none⟩ = some (.int .i64 0) := blk_cell hJ5.at2 3
  have z4 : w5.cell? ⟨w.heap.size + 1, 4, none⟩ = some (.slice none 0 0) := blk_cell hJ5.at2 4
  have k0 : ∀ i, w5.frozen? ⟨w.heap.size + 1, i, none⟩ = false := fun i => blk_frozen hJ5.at2 i
  clear hm hC hrd5 hJ5 g4 g5 g6 HJ4 HW4
  go_wp2_with fail
  have hm := ((((mod_setCell w5 (w.heap.size + 1) 0 (.string nm)).trans (mod_setCell _ _ 1 (.slice V1 cols.length c1))).trans (mod_setCell _ _ 2 (.slice V2 key.length c2))).trans (mod_setCell _ _ 3 (.int .i64 pt))).trans (mod_setCell _ _ 4 (.slice V3 idx.length c3))
  have hE := blk_put (cs' := #[.string nm, .slice V1 cols.length c1, .slice V2 key.length c2, .int .i64 pt, .slice V3 idx.length c3]) (blk_put (cs' := #[.string nm, .slice V1 cols.length c1, .slice V2 key.length c2, .int .i64 pt, .slice none 0 0]) (blk_put (cs' := #[.string nm, .slice V1 cols.length c1, .slice V2 key.length c2, .int .i64 0, .slice none 0 0]) (blk_put (cs' := #[.string nm, .slice V1 cols.length c1, .slice none 0 0, .int .i64 0, .slice none 0 0]) (blk_put (cs' := #[.string nm, .slice none 0 0, .slice none 0 0, .int .i64 0, .slice none 0 0]) HJ5.out.at2 0 (.string nm) rfl) 1 (.slice V1 cols.length c1) rfl) 2 (.slice V2 key.length c2) rfl) 3 (.int .i64 pt) rfl) 4 (.slice V3 idx.length c3) rfl
  refine bodyPost_ret (results_cell_row rfl _ _ (w.heap.size + 1) 30 #[.string nm, .slice V1 cols.length c1, .slice V2 key.length c2, .int .i64 pt, .slice V3 idx.length c3] (0, 0) _ rfl hE Try.underlying30 rfl (by kernel_rfl)) rfl ?_
  have hrd := (RD1.out.pair (RD2.out.pair (RD3.out.pair (RD4.out.pair RD5.out)))).map (w' := wTab) (ok' := okTab) (fun p => (⟨p.1, p.2.1, p.2.2.1, p.2.2.2.1, p.2.2.2.2⟩ : Tab)) (fun t => (t.name, t.cols, t.key, t.part, t.idx)) rfl (fun _ => rfl) (fun y hy => hy) (fun _ _ => rfl)
  refine ⟨_, ⟨nm, cols, key, pt, idx⟩, s5, b5, rfl, ⟨_, _, _, rfl, ?_, ?_, ?_⟩, blk_mod HJ5.out.rs hm (by omega), HJ5.out.md.then_new hm (fun i hi hq => by omega), hs5, hrd⟩
  · exact Kd.R_mono (Kd.R_lower (R_up (N := wa.heap.size) HR1d.out (fun q h => h) hm (fun i hi => by omega)) (by omega)) (fun _ _ => trivial)
  · exact Kd.R_mono (Kd.R_lower (R_up (N := wa.heap.size) HR2d.out (fun q h => h) hm (fun i hi => by omega)) (by omega)) (fun _ _ => trivial)
  · exact Kd.R_mono (Kd.R_lower (R_up (N := wa.heap.size) HR3.out (fun q h => Nat.le_trans hw4 h) hm (fun i hi => by omega)) (by omega)) (fun _ _ => trivial)
end Go.Proofs.Ytcmgdieeclninaa
