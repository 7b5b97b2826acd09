/- Layer 23: the walk of the reference's takes. -/
import Derived.Test.YtlnneaccgfakeaaK10
set_option linter.unusedVariables false
set_option linter.unusedSimpArgs false
namespace Go.Proofs.Ytlnneaccgfakeaa
open Go.RowKit Go.Proofs.YtlnneaccgfakeaaW.PrintWords Go.Proofs.YtlnneaccgfakeaaW.PrintLast
/-- The elements from k on, those ahead of j, have moved one place ahead. -/
def Moved (L L' : List Msg) (k j : Nat) : Prop := L'.length = L.length ∧ k ≤ j ∧ j + 1 ≤ L.length ∧ (∀ x, x < j → L'[x]? = (L.eraseIdx k)[x]?) ∧ ∀ x, j ≤ x → L'[x]? = L[x]?
theorem moved_start {L : List Msg} {k : Nat} (hk : k < L.length) : Moved L L k k :=
  ⟨rfl, Nat.le_refl _, hk, fun x hx => by rw [List.getElem?_eraseIdx, if_pos hx], fun x _ => rfl⟩
theorem moved_step {L L' : List Msg} {k j : Nat} (h : Moved L L' k j) (hj : j + 1 < L.length) : Moved L (L'.set j (L'.getD (j + 1) default)) k (j + 1) := by
  obtain ⟨h1, h2, h3, h4, h5⟩ := h
  refine ⟨by rw [List.length_set]; exact h1, by omega, hj, fun x hx => ?_, fun x hx => by rw [List.getElem?_set_ne (by omega)]; exact h5 x (by omega)⟩
  rcases Nat.lt_succ_iff_lt_or_eq.1 hx with hx | hx
  · rw [List.getElem?_set_ne (by omega)]; exact h4 x hx
  · subst hx
    rw [List.getElem?_set_self (by omega), List.getElem?_eraseIdx, if_neg (by omega), List.getD_eq_getElem?_getD, h5 (x + 1) (by omega), List.getElem?_eq_getElem hj]
    rfl
theorem moved_end {L L' : List Msg} {k j : Nat} (h : Moved L L' k j) (hj : ¬ j + 1 < L.length) : L'.take (L.length - 1) = L.eraseIdx k := by
  obtain ⟨h1, h2, h3, h4, h5⟩ := h
  apply List.ext_getElem?
  intro x
  rw [List.getElem?_take]
  by_cases hx : x < L.length - 1
  · rw [if_pos hx]; exact h4 x (by omega)
  · rw [if_neg hx, List.getElem?_eq_none]
    rw [List.length_eraseIdx_of_lt (by omega)]; omega
set_option maxRecDepth 100000 in
set_option maxHeartbeats 8000000 in
theorem takes_any (n : NS) (A : Option Addr) (c : Nat) (base p : Nat) (ok : Nat → Prop) (k : Nat) (w : World) (hN : RNet w base p ok n A c) (hb0 : base ≤ w.heap.size) (hk : k < n.l.length) :
    Calls Try.prog 30 #[.pointer (some ⟨p, 0, none⟩), .int .i64 k] w fun e w' => e = .returned (.tuple #[]) ∧ RNet w' base p ok { n with l := n.l.eraseIdx k } A c ∧ Mod w w' (fun q => q = p ∨ some q = (Value.slice A n.l.length c).ownBlock) := by
  obtain ⟨g, cap, hv, hg1, hg2, _⟩ := Kd.R_form hN.row (by omega)
  obtain ⟨rfl, rfl⟩ : A = some ⟨g, 0, none⟩ ∧ c = cap := by injection hv with h1 h2 h3; exact ⟨h1, h3⟩
  have hgo := hN.row.1 g (by simp [Value.ownBlock])
  have HGO := Lib.hid hgo
  have hgp : p ≠ g := fun he => hN.pok (by rw [he]; exact hgo)
  have HGP := Lib.hid hgp
  have hcn := hN.cnt
  have HN := Aside0.mk hN
  clear hv hgo hgp hN
  go_enter Try.func30, Try.ntmps30
  go_wp2_with fail
  go_loopg [4] n.l.length (fun gn i wr => ∃ (j : Nat) (L : List Msg), i = .int .i64 j ∧ Aside0 (n.l.length ≤ j + gn ∧ Moved n.l L k j) ∧ Aside0 (Mod w wr (fun q => q = g)) ∧ Aside0 (kMsg.R 32 wr base ok (.slice (some ⟨g, 0, none⟩) n.l.length c) L))
  case atStart => exact ⟨k, n.l, rfl, ⟨by omega, moved_start hk⟩, ⟨Mod.refl _ _⟩, ⟨HN.out.row⟩⟩
  case round =>
    obtain ⟨j, L, rfl, ⟨hgn, hmv⟩, hM, hR⟩ := hrel
    have HGN := Lib.hid hgn
    have HMV := Lib.hid hmv
    have hjl : j + 1 ≤ n.l.length := hmv.2.2.1
    have hLl : L.length = n.l.length := hmv.1
    have HLL := Lib.hid hLl
    have HP := Aside0.mk (blk_mod HN.out.blk hM.out HGP.out)
    have f1 : wr.cell? ⟨p, 1, none⟩ = some (.slice (some ⟨g, 0, none⟩) n.l.length c) := blk_cell HP.out 1
    clear hgn hmv hLl
    by_cases hj : j + 1 < n.l.length
    · have p0 : (j : Int) + 1 < n.l.length := by omega
      have p1 : (0 : Int) ≤ j := by omega
      have p2 : (0 : Int) ≤ (j : Int) + 1 := by omega
      have p3 : (j : Int) < n.l.length := by omega
      obtain ⟨cs, hcl, hM1, hcell, hfr⟩ := Kd.R_elem hR.out default ((j : Int) + 1) (by omega) (by omega)
      obtain ⟨cs0, hcl0, hM0, hcell0, hfr0⟩ := Kd.R_elem hR.out default (j : Int) (by omega) (by omega)
      rw [show ((j : Int) + 1).toNat = j + 1 from by omega] at hM1 hcell
      rw [Int.toNat_natCast] at hM0 hcell0 hfr0
      obtain ⟨m, hm⟩ : ∃ x, x = L.getD (j + 1) default := ⟨_, rfl⟩
      rw [← hm] at hM1
      obtain ⟨v, hcs, hRv⟩ := kMsg_M.1 hM1
      obtain ⟨v0, hcs0, hRv0⟩ := kMsg_M.1 hM0
      obtain ⟨V, vc, rfl⟩ := Kd.R_slice hRv
      obtain ⟨m0, hm0⟩ : ∃ x, x = L.getD j default := ⟨_, rfl⟩
      rw [← hm0] at hRv0 hcs0
      obtain ⟨V0, vc0, rfl⟩ := Kd.R_slice hRv0
      subst hcs hcs0
      have q0 : wr.cell? ⟨g, (j + 1) * 5, none⟩ = some (.int .i64 m.src) := hcell 0 _ rfl
      have q1 : wr.cell? ⟨g, (j + 1) * 5 + 1, none⟩ = some (.int .i64 m.dst) := hcell 1 _ rfl
      have q2 : wr.cell? ⟨g, (j + 1) * 5 + 2, none⟩ = some (.int .i64 m.kind) := hcell 2 _ rfl
      have q3 : wr.cell? ⟨g, (j + 1) * 5 + 3, none⟩ = some (.int .i64 m.pos) := hcell 3 _ rfl
      have q4 : wr.cell? ⟨g, (j + 1) * 5 + 4, none⟩ = some (.slice V m.body.length vc) := hcell 4 _ rfl
      have e0 : wr.cell? ⟨g, j * 5, none⟩ = some (.int .i64 m0.src) := hcell0 0 _ rfl
      have e1 : wr.cell? ⟨g, j * 5 + 1, none⟩ = some (.int .i64 m0.dst) := hcell0 1 _ rfl
      have e2 : wr.cell? ⟨g, j * 5 + 2, none⟩ = some (.int .i64 m0.kind) := hcell0 2 _ rfl
      have e3 : wr.cell? ⟨g, j * 5 + 3, none⟩ = some (.int .i64 m0.pos) := hcell0 3 _ rfl
      have e4 : wr.cell? ⟨g, j * 5 + 4, none⟩ = some (.slice V0 m0.body.length vc0) := hcell0 4 _ rfl
      have e5 : ∀ i, wr.frozen? ⟨g, i, none⟩ = false := by
        obtain ⟨cells, hc⟩ := own_typed (Kd.R_own hR.out).choose_spec g (by simp [Value.ownBlock])
        exact fun i => blk_frozen hc i
      have hseg := (Kd.R_seg (W := wr) (j := 0) (seg := [.int .i64 m.src, .int .i64 m.dst, .int .i64 m.kind, .int .i64 m.pos, .slice V m.body.length vc]) hR.out (j : Int) (by omega) (by omega) hcl0 (fun i u hu => by rw [Int.toNat_natCast]; exact hcell0 i u hu) (Nat.le_refl 5) (x' := m) (okp := fun q => ok q ∧ q ≠ g) hM1 (fun q hq => hq)).1
      rw [Int.toNat_natCast] at hseg
      have HSEG := Aside0.mk hseg
      have HMM := Lib.hid hm
      clear hcl hM1 hcell hfr hcl0 hM0 hcell0 hfr0 hm hm0 hRv hRv0 hseg
      go_wp2_with fail
      have t1 : wrap64 ((j : Int) + 1) = (j : Int) + 1 := by unfold wrap64; omega
      have t2 : ((j : Int) + 1).toNat = j + 1 := by omega
      refine start_ (n := 15) (S := fun w' => w'.cell? ⟨p, 1, none⟩ = some (.slice (some ⟨g, 0, none⟩) n.l.length c) ∧ w'.cell? ⟨g, (j + 1) * 5, none⟩ = some (.int .i64 m.src) ∧ w'.cell? ⟨g, (j + 1) * 5 + 1, none⟩ = some (.int .i64 m.dst) ∧ w'.cell? ⟨g, (j + 1) * 5 + 2, none⟩ = some (.int .i64 m.kind) ∧ w'.cell? ⟨g, (j + 1) * 5 + 3, none⟩ = some (.int .i64 m.pos) ∧ w'.cell? ⟨g, (j + 1) * 5 + 4, none⟩ = some (.slice V m.body.length vc)) (ds := [14]) #[false, false, false, false, false, false, false, false, false, false, false, false, false, false, false] (by kernel_rfl) rfl rfl ⟨f1, q0, q1, q2, q3, q4⟩ (fun hHeld => ?_)
      refine pure_ (i := 0) (N := some 16) (v := ?_) (a' := ?_) #[true, false, false, false, false, false, false, false, false, false, false, false, false, false, false] rfl rfl (by kernel_rfl) (fun _ _ _ h => h) (Or.inl ⟨by rfl, ?_⟩) ?_ ?_
      rotate_left
      · intro w'
        go_simp
        with_reducible rfl
      rotate_left
      · simp only [Act.put, List.setIfInBounds_toArray, List.set_cons_zero, List.set_cons_succ, i64_w, i32_w]
        rfl
      refine pure_ (i := 1) (N := some 17) (v := ?_) (a' := ?_) #[true, true, false, false, false, false, false, false, false, false, false, false, false, false, false] rfl rfl (by kernel_rfl) (fun _ _ _ h => h) (Or.inl ⟨by rfl, ?_⟩) ?_ ?_
      rotate_left
      · intro w'
        go_simp
        with_reducible rfl
      rotate_left
      · simp only [Act.put, List.setIfInBounds_toArray, List.set_cons_zero, List.set_cons_succ, i64_w, i32_w]
        rfl
      refine pure_ (i := 2) (N := some 18) (v := ?_) (a' := ?_) #[true, true, true, false, false, false, false, false, false, false, false, false, false, false, false] rfl rfl (by kernel_rfl) (fun _ _ _ h => h) (Or.inl ⟨by rfl, ?_⟩) ?_ ?_
      rotate_left
      · intro w'
        go_simp
        with_reducible rfl
      rotate_left
      · simp only [Act.put, List.setIfInBounds_toArray, List.set_cons_zero, List.set_cons_succ, i64_w, i32_w]
        rfl
      refine pure_ (i := 4) (N := some 20) (v := ?_) (a' := ?_) #[true, true, true, false, true, false, false, false, false, false, false, false, false, false, false] rfl rfl (by kernel_rfl) (fun _ _ _ h => h) (Or.inl ⟨by rfl, ?_⟩) ?_ ?_
      rotate_left
      · intro w'
        go_simp
        with_reducible rfl
      rotate_left
      · simp only [Act.put, List.setIfInBounds_toArray, List.set_cons_zero, List.set_cons_succ, i64_w, i32_w]
        rfl
      refine pure_ (i := 5) (N := some 21) (v := ?_) (a' := ?_) #[true, true, true, false, true, true, false, false, false, false, false, false, false, false, false] rfl rfl (by kernel_rfl) (fun _ _ _ h => h) (Or.inl ⟨by rfl, ?_⟩) ?_ ?_
      rotate_left
      · intro w'
        go_simp
        with_reducible rfl
      rotate_left
      · simp only [Act.put, List.setIfInBounds_toArray, List.set_cons_zero, List.set_cons_succ, i64_w, i32_w]
        rfl
      refine pure_ (i := 6) (N := some 22) (v := ?_) (a' := ?_) #[true, true, true, false, true, true, true, false, false, false, false, false, false, false, false] rfl rfl (by kernel_rfl) (fun _ _ _ h => h) (Or.inl ⟨by rfl, ?_⟩) ?_ ?_
      rotate_left
      · intro w'
        go_simp
        with_reducible rfl
      rotate_left
      · simp only [Act.put, List.setIfInBounds_toArray, List.set_cons_zero, List.set_cons_succ, i64_w, i32_w]
        rfl
      refine pure_ (i := 7) (N := some 23) (v := ?_) (a' := ?_) #[true, true, true, false, true, true, true, true, false, false, false, false, false, false, false] rfl rfl (by kernel_rfl) (fun _ _ _ h => h) (Or.inl ⟨by rfl, ?_⟩) ?_ ?_
      rotate_left
      · intro w'
        go_simp
        with_reducible rfl
      rotate_left
      · simp only [Act.put, List.setIfInBounds_toArray, List.set_cons_zero, List.set_cons_succ, i64_w, i32_w]
        rfl
      refine pure_ (i := 9) (N := some 25) (v := ?_) (a' := ?_) #[true, true, true, false, true, true, true, true, false, true, false, false, false, false, false] rfl rfl (by kernel_rfl) (fun _ _ _ h => h) (Or.inl ⟨by rfl, ?_⟩) ?_ ?_
      rotate_left
      · intro w'
        go_simp
        with_reducible rfl
      rotate_left
      · simp only [Act.put, List.setIfInBounds_toArray, List.set_cons_zero, List.set_cons_succ, i64_w, i32_w]
        rfl
      refine pure_ (i := 10) (N := some 26) (v := ?_) (a' := ?_) #[true, true, true, false, true, true, true, true, false, true, true, false, false, false, false] rfl rfl (by kernel_rfl) (fun _ _ _ h => h) (Or.inl ⟨by rfl, ?_⟩) ?_ ?_
      rotate_left
      · intro w'
        go_simp
        with_reducible rfl
      rotate_left
      · simp only [Act.put, List.setIfInBounds_toArray, List.set_cons_zero, List.set_cons_succ, i64_w, i32_w]
        rfl
      refine take_ (i := 3) (N := some 19) (v := ?_) (a' := ?_) #[true, true, true, true, true, true, true, true, false, true, true, false, false, false, false] rfl rfl (by kernel_rfl) (fun _ _ _ h => h) (Or.inl ⟨by rfl, ?_⟩) hHeld ?_ ?_
      rotate_left
      · rintro w' ⟨s0, s1, s2, s3, s4, s5⟩
        go_simp
        with_reducible rfl
      rotate_left
      · simp only [Act.put, List.setIfInBounds_toArray, List.set_cons_zero, List.set_cons_succ, i64_w, i32_w]
        rfl
      refine take_ (i := 8) (N := some 24) (v := ?_) (a' := ?_) #[true, true, true, true, true, true, true, true, true, true, true, false, false, false, false] rfl rfl (by kernel_rfl) (fun _ _ _ h => h) (Or.inl ⟨by rfl, ?_⟩) hHeld ?_ ?_
      rotate_left
      · rintro w' ⟨s0, s1, s2, s3, s4, s5⟩
        go_simp
        with_reducible rfl
      rotate_left
      · simp only [Act.put, List.setIfInBounds_toArray, List.set_cons_zero, List.set_cons_succ, i64_w, i32_w]
        rfl
      refine pure_ (i := 11) (N := some 27) (v := ?_) (a' := ?_) #[true, true, true, true, true, true, true, true, true, true, true, true, false, false, false] rfl rfl (by kernel_rfl) (fun _ _ _ h => h) (Or.inl ⟨by rfl, ?_⟩) ?_ ?_
      rotate_left
      · intro w'
        go_simp
        with_reducible rfl
      rotate_left
      · simp only [Act.put, List.setIfInBounds_toArray, List.set_cons_zero, List.set_cons_succ, i64_w, i32_w]
        rfl
      refine take_ (i := 12) (N := some 28) (v := ?_) (a' := ?_) #[true, true, true, true, true, true, true, true, true, true, true, true, true, false, false] rfl rfl (by kernel_rfl) (fun _ _ _ h => h) (Or.inl ⟨by rfl, ?_⟩) hHeld ?_ ?_
      rotate_left
      · rintro w' ⟨s0, s1, s2, s3, s4, s5⟩
        go_simp
        with_reducible rfl
      rotate_left
      · simp only [Act.put, List.setIfInBounds_toArray, List.set_cons_zero, List.set_cons_succ, i64_w, i32_w]
        rfl
      refine pure_ (i := 13) (N := some 29) (v := ?_) (a' := ?_) #[true, true, true, true, true, true, true, true, true, true, true, true, true, true, false] rfl rfl (by kernel_rfl) (fun _ _ _ h => h) (Or.inl ⟨by rfl, ?_⟩) ?_ ?_
      rotate_left
      · intro w'
        go_simp
        with_reducible rfl
      rotate_left
      · simp only [Act.put, List.setIfInBounds_toArray, List.set_cons_zero, List.set_cons_succ, i64_w, i32_w]
        rfl
      refine last_ (i := 14) (N := none) #[true, true, true, true, true, true, true, true, true, true, true, true, true, true, true] rfl rfl (by kernel_rfl) (by decide) (fun K hK => ?_)
      refine skip_ (w1 := ?_) (by rfl) rfl ?_ ?_
      rotate_left
      · go_simp
        rfl
      refine hK.out _ _ ?_
      clear hK K
      refine done_ (by kernel_rfl) ?_
      have hR2 := Kd.R_move (w1 := (((((wr.setCell ⟨g, j * 5, none⟩ (.int .i64 m.src)).setCell ⟨g, j * 5 + 1, none⟩ (.int .i64 m.dst)).setCell ⟨g, j * 5 + 2, none⟩ (.int .i64 m.kind)).setCell ⟨g, j * 5 + 3, none⟩ (.int .i64 m.pos)).setCell ⟨g, j * 5 + 4, none⟩ (.slice V m.body.length vc)).drew) HSEG.out (fun _ _ => rfl)
      have HR2 := Aside0.mk hR2
      have hM2 : Mod wr (((((wr.setCell ⟨g, j * 5, none⟩ (.int .i64 m.src)).setCell ⟨g, j * 5 + 1, none⟩ (.int .i64 m.dst)).setCell ⟨g, j * 5 + 2, none⟩ (.int .i64 m.kind)).setCell ⟨g, j * 5 + 3, none⟩ (.int .i64 m.pos)).setCell ⟨g, j * 5 + 4, none⟩ (.slice V m.body.length vc)).drew (fun q => q = g) := Mod.drewN (((((mod_setCell wr g (j * 5) (.int .i64 m.src)).trans (mod_setCell _ g _ _)).trans (mod_setCell _ g _ _)).trans (mod_setCell _ g _ _)).trans (mod_setCell _ g _ _)) 1
      have HM2 := Aside0.mk (hM.out.trans hM2)
      clear t1 t2 hR2 hM2 hHeld q0 q1 q2 q3 q4 e0 e1 e2 e3 e4 e5 f1
      go_wp2_with fail
      go_roundg (n.l.length - (j + 1))
      case measure => have := HGN.out; omega
      case rel => exact ⟨j + 1, L.set j m, by go_num, ⟨by omega, by rw [HMM.out]; exact moved_step HMV.out hj⟩, HM2, HR2⟩
    · have p0 : ¬ (j : Int) + 1 < n.l.length := by omega
      have hnc : n.l.length ≤ c := (Kd.R_reads' HN.out.row).2.1
      go_wp2_with fail
      have t1 : wrap64 ((n.l.length : Int) - 1) = (n.l.length : Int) - 1 := by unfold wrap64; omega
      have t2 : ((n.l.length : Int) - 1).toNat = n.l.length - 1 := by omega
      have t3 : (0 : Int) ≤ (n.l.length : Int) - 1 := by omega
      have t4 : (n.l.length : Int) - 1 ≤ c := by omega
      have t5 : (1 : Int) ≤ n.l.length := by omega
      have t6 : (n.l.length : Int) ≤ (c : Int) + 1 := by omega
      have f2 : ∀ i, wr.frozen? ⟨p, i, none⟩ = false := fun i => blk_frozen HP.out i
      refine start_ (n := 15) (S := fun w' => w'.cell? ⟨p, 1, none⟩ = some (.slice (some ⟨g, 0, none⟩) n.l.length c)) (ds := [14]) #[false, false, false, false, false, false, false, false, false, false, false, false, false, false, false] (by kernel_rfl) rfl rfl (f1) (fun hHeld => ?_)
      refine pure_ (i := 0) (N := some 30) (v := ?_) (a' := ?_) #[true, false, false, false, false, false, false, false, false, false, false, false, false, false, false] rfl rfl (by kernel_rfl) (fun _ _ _ h => h) (Or.inl ⟨by rfl, ?_⟩) ?_ ?_
      rotate_left
      · intro w'
        go_simp
        with_reducible rfl
      rotate_left
      · simp only [Act.put, List.setIfInBounds_toArray, List.set_cons_zero, List.set_cons_succ, i64_w, i32_w]
        rfl
      refine pure_ (i := 1) (N := some 31) (v := ?_) (a' := ?_) #[true, true, false, false, false, false, false, false, false, false, false, false, false, false, false] rfl rfl (by kernel_rfl) (fun _ _ _ h => h) (Or.inl ⟨by rfl, ?_⟩) ?_ ?_
      rotate_left
      · intro w'
        go_simp
        with_reducible rfl
      rotate_left
      · simp only [Act.put, List.setIfInBounds_toArray, List.set_cons_zero, List.set_cons_succ, i64_w, i32_w]
        rfl
      refine pure_ (i := 2) (N := some 32) (v := ?_) (a' := ?_) #[true, true, true, false, false, false, false, false, false, false, false, false, false, false, false] rfl rfl (by kernel_rfl) (fun _ _ _ h => h) (Or.inl ⟨by rfl, ?_⟩) ?_ ?_
      rotate_left
      · intro w'
        go_simp
        with_reducible rfl
      rotate_left
      · simp only [Act.put, List.setIfInBounds_toArray, List.set_cons_zero, List.set_cons_succ, i64_w, i32_w]
        rfl
      refine pure_ (i := 3) (N := some 33) (v := ?_) (a' := ?_) #[true, true, true, true, false, false, false, false, false, false, false, false, false, false, false] rfl rfl (by kernel_rfl) (fun _ _ _ h => h) (Or.inl ⟨by rfl, ?_⟩) ?_ ?_
      rotate_left
      · intro w'
        go_simp
        with_reducible rfl
      rotate_left
      · simp only [Act.put, List.setIfInBounds_toArray, List.set_cons_zero, List.set_cons_succ, i64_w, i32_w]
        rfl
      refine pure_ (i := 5) (N := some 35) (v := ?_) (a' := ?_) #[true, true, true, true, false, true, false, false, false, false, false, false, false, false, false] rfl rfl (by kernel_rfl) (fun _ _ _ h => h) (Or.inl ⟨by rfl, ?_⟩) ?_ ?_
      rotate_left
      · intro w'
        go_simp
        with_reducible rfl
      rotate_left
      · simp only [Act.put, List.setIfInBounds_toArray, List.set_cons_zero, List.set_cons_succ, i64_w, i32_w]
        rfl
      refine pure_ (i := 6) (N := some 36) (v := ?_) (a' := ?_) #[true, true, true, true, false, true, true, false, false, false, false, false, false, false, false] rfl rfl (by kernel_rfl) (fun _ _ _ h => h) (Or.inl ⟨by rfl, ?_⟩) ?_ ?_
      rotate_left
      · intro w'
        go_simp
        with_reducible rfl
      rotate_left
      · simp only [Act.put, List.setIfInBounds_toArray, List.set_cons_zero, List.set_cons_succ, i64_w, i32_w]
        rfl
      refine pure_ (i := 7) (N := some 37) (v := ?_) (a' := ?_) #[true, true, true, true, false, true, true, true, false, false, false, false, false, false, false] rfl rfl (by kernel_rfl) (fun _ _ _ h => h) (Or.inl ⟨by rfl, ?_⟩) ?_ ?_
      rotate_left
      · intro w'
        go_simp
        with_reducible rfl
      rotate_left
      · simp only [Act.put, List.setIfInBounds_toArray, List.set_cons_zero, List.set_cons_succ, i64_w, i32_w]
        rfl
      refine take_ (i := 4) (N := some 34) (v := ?_) (a' := ?_) #[true, true, true, true, true, true, true, true, false, false, false, false, false, false, false] rfl rfl (by kernel_rfl) (fun _ _ _ h => h) (Or.inl ⟨by rfl, ?_⟩) hHeld ?_ ?_
      rotate_left
      · intro w' s0
        go_simp
        with_reducible rfl
      rotate_left
      · simp only [Act.put, List.setIfInBounds_toArray, List.set_cons_zero, List.set_cons_succ, i64_w, i32_w]
        rfl
      refine take_ (i := 8) (N := some 38) (v := ?_) (a' := ?_) #[true, true, true, true, true, true, true, true, true, false, false, false, false, false, false] rfl rfl (by kernel_rfl) (fun _ _ _ h => h) (Or.inl ⟨by rfl, ?_⟩) hHeld ?_ ?_
      rotate_left
      · intro w' s0
        go_simp
        with_reducible rfl
      rotate_left
      · simp only [Act.put, List.setIfInBounds_toArray, List.set_cons_zero, List.set_cons_succ, i64_w, i32_w]
        rfl
      refine pure_ (i := 9) (N := some 39) (v := ?_) (a' := ?_) #[true, true, true, true, true, true, true, true, true, true, false, false, false, false, false] rfl rfl (by kernel_rfl) (fun _ _ _ h => h) (Or.inl ⟨by rfl, ?_⟩) ?_ ?_
      rotate_left
      · intro w'
        go_simp
        with_reducible rfl
      rotate_left
      · simp only [Act.put, List.setIfInBounds_toArray, List.set_cons_zero, List.set_cons_succ, i64_w, i32_w]
        rfl
      refine pure_ (i := 10) (N := some 40) (v := ?_) (a' := ?_) #[true, true, true, true, true, true, true, true, true, true, true, false, false, false, false] rfl rfl (by kernel_rfl) (fun _ _ _ h => h) (Or.inl ⟨by rfl, ?_⟩) ?_ ?_
      rotate_left
      · intro w'
        go_simp
        with_reducible rfl
      rotate_left
      · simp only [Act.put, List.setIfInBounds_toArray, List.set_cons_zero, List.set_cons_succ, i64_w, i32_w]
        rfl
      refine pure_ (i := 11) (N := some 41) (v := ?_) (a' := ?_) #[true, true, true, true, true, true, true, true, true, true, true, true, false, false, false] rfl rfl (by kernel_rfl) (fun _ _ _ h => h) (Or.inl ⟨by rfl, ?_⟩) ?_ ?_
      rotate_left
      · intro w'
        go_simp
        with_reducible rfl
      rotate_left
      · simp only [Act.put, List.setIfInBounds_toArray, List.set_cons_zero, List.set_cons_succ, i64_w, i32_w]
        rfl
      refine pure_ (i := 12) (N := some 42) (v := ?_) (a' := ?_) #[true, true, true, true, true, true, true, true, true, true, true, true, true, false, false] rfl rfl (by kernel_rfl) (fun _ _ _ h => h) (Or.inl ⟨by rfl, ?_⟩) ?_ ?_
      rotate_left
      · intro w'
        go_simp
        with_reducible rfl
      rotate_left
      · simp only [Act.put, List.setIfInBounds_toArray, List.set_cons_zero, List.set_cons_succ, i64_w, i32_w]
        rfl
      refine pure_ (i := 13) (N := some 43) (v := ?_) (a' := ?_) #[true, true, true, true, true, true, true, true, true, true, true, true, true, true, false] rfl rfl (by kernel_rfl) (fun _ _ _ h => h) (Or.inl ⟨by rfl, ?_⟩) ?_ ?_
      rotate_left
      · intro w'
        go_simp
        with_reducible rfl
      rotate_left
      · simp only [Act.put, List.setIfInBounds_toArray, List.set_cons_zero, List.set_cons_succ, i64_w, i32_w]
        rfl
      refine last_ (i := 14) (N := none) #[true, true, true, true, true, true, true, true, true, true, true, true, true, true, true] rfl rfl (by kernel_rfl) (by decide) (fun K hK => ?_)
      refine skip_ (w1 := ?_) (by rfl) rfl ?_ ?_
      rotate_left
      · go_simp
        rfl
      refine hK.out _ _ ?_
      clear hK K
      refine done_ (by kernel_rfl) ?_
      clear t1 t2 t3 t4 t5 t6 hHeld f1 f2
      go_wp2_with fail
      have hlen : (n.l.eraseIdx k).length = n.l.length - 1 := List.length_eraseIdx_of_lt hk
      have hR3 := R_set (Kd.R_take hR.out (m := n.l.length - 1) (by have := HLL.out; omega)) p 1 (.slice (some ⟨g, 0, none⟩) (n.l.length - 1) c) HN.out.pok
      rw [moved_end HMV.out hj] at hR3
      have hR4 := Kd.R_move (w1 := (wr.setCell ⟨p, 1, none⟩ (.slice (some ⟨g, 0, none⟩) (n.l.length - 1) c)).drew) hR3 (fun _ _ => rfl)
      have hp4 := blk_put HP.out 1 (.slice (some ⟨g, 0, none⟩) (n.l.length - 1) c) rfl
      have hm4 : Mod w (wr.setCell ⟨p, 1, none⟩ (.slice (some ⟨g, 0, none⟩) (n.l.length - 1) c)).drew (fun q => q = p ∨ some q = (Value.slice (some ⟨g, 0, none⟩) n.l.length c).ownBlock) :=
        ((hM.out.mono (fun q h => .inr (by rw [h]; simp [Value.ownBlock]))).trans ((mod_setCell wr p 1 _).mono (fun _ h => .inl h))).drewN 1
      go_end0
      refine ⟨rfl, ⟨?_, ?_, HN.out.pb, HN.out.pok, ?_, ?_⟩, hm4⟩
      · show _ = some (Obj.cells #[_, .slice (some ⟨g, 0, none⟩) (n.l.eraseIdx k).length c, _, _, _, _] 59 (0, 0))
        rw [hlen]
        exact hp4
      · show kMsg.R 32 _ base ok (.slice (some ⟨g, 0, none⟩) (n.l.eraseIdx k).length c) (n.l.eraseIdx k)
        rw [hlen]
        exact hR4
      · show (n.l.eraseIdx k).length ≤ 1000
        rw [hlen]; omega
      · exact fun x hx => HN.out.bd x (List.mem_of_mem_eraseIdx hx)
end Go.Proofs.Ytlnneaccgfakeaa
